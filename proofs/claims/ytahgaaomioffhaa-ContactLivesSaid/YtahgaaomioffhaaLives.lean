/- The law ContactLives, walked.
Conditions: as each theorem names them. -/
import Derived.Test.YtahgaaomioffhaaProg
import Derived.Test.YtahgaaomioffhaaC3
import Derived.Test.YtahgaaomioffhaaK19
import Derived.Test.YtahgaaomioffhaaLaw19
set_option linter.unusedSimpArgs false
set_option linter.unusedVariables false
set_option maxRecDepth 4000
namespace Go.Proofs.Ytahgaaomioffhaa
open Go Go.K
attribute [local irreducible] Code.wp wpList Calls wpQuiet
theorem Lives_zo60 : zeroOf Try.prog 60 = some (.agg #[.pointer none, .pointer none]) := by kernel_rfl
theorem Lives_ea60 : elemA Try.prog 60 = some 1 := by kernel_rfl
theorem Lives_sz60 : sizeT Try.prog 60 = some 2 := by kernel_rfl
theorem Lives_zo24 : zeroOf Try.prog 24 = some (.agg #[.int .i64 0, .int .i64 0]) := by kernel_rfl
theorem Lives_ea24 : elemA Try.prog 24 = some 1 := by kernel_rfl
theorem Lives_sz24 : sizeT Try.prog 24 = some 2 := by kernel_rfl
theorem Lives_zo62 : zeroOf Try.prog 62 = some (.agg #[.slice none 0 0, .slice none 0 0]) := by kernel_rfl
theorem Lives_zo63 : zeroOf Try.prog 63 = some (.agg #[.int .i64 0, .int .i64 0, .int .i64 0, .int .i64 0]) := by kernel_rfl
theorem Lives_ea63 : elemA Try.prog 63 = some 2 := by kernel_rfl
theorem Lives_sz63 : sizeT Try.prog 63 = some 4 := by kernel_rfl
theorem Lives_es59 : elemS Try.prog 59 = some (65, 3) := by kernel_rfl
theorem Lives_fo65_1 : fieldOff Try.prog 65 1 = some 1 := by kernel_rfl
theorem Lives_ts3 : scal Try.prog 3 = true := by kernel_rfl
theorem Lives_fo65_0 : fieldOff Try.prog 65 0 = some 0 := by kernel_rfl
theorem Lives_mo : Try.prog.follows .mixedOrders = true := by kernel_rfl
theorem Lives_al60 : arrT Try.prog 60 = some (2, 1) := by kernel_rfl
theorem Lives_ts46 : scal Try.prog 46 = true := by kernel_rfl
theorem Lives_fo65_2 : fieldOff Try.prog 65 2 = some 2 := by kernel_rfl
theorem Lives_zo37 : zeroOf Try.prog 37 = some (.agg #[.int .i64 0, .int .i64 0, .int .i64 0, .int .i64 0, .int .i64 0, .int .u32 0, .int .i64 0, .string ⟨#[]⟩, .int .i64 0, .int .i64 0, .bool false]) := by kernel_rfl
theorem Lives_sz37 : sizeT Try.prog 37 = some 11 := by kernel_rfl
theorem Lives_fo37_1 : fieldOff Try.prog 37 1 = some 1 := by kernel_rfl
theorem Lives_al24 : arrT Try.prog 24 = some (2, 1) := by kernel_rfl
theorem Lives_al62 : arrT Try.prog 62 = some (2, 1) := by kernel_rfl
theorem Lives_ts61 : scal Try.prog 61 = true := by kernel_rfl
theorem Lives_ag37 : aggsz Try.prog 37 = some 11 := by kernel_rfl
theorem Lives_es61 : elemS Try.prog 61 = some (37, 11) := by kernel_rfl
theorem Lives_zi37 : zeroInfo Try.prog 37 = some (11, 96, .agg #[.int .i64 0, .int .i64 0, .int .i64 0, .int .i64 0, .int .i64 0, .int .u32 0, .int .i64 0, .string ⟨#[]⟩, .int .i64 0, .int .i64 0, .bool false]) := by kernel_rfl
theorem Lives_sz61 : sizeT Try.prog 61 = some 1 := by kernel_rfl
theorem Lives_pl37 : placesS Try.prog 37 = some [(0, 1), (1, 1), (2, 1), (3, 1), (4, 1), (5, 1), (6, 1), (7, 1), (8, 1), (9, 1), (10, 1)] := by kernel_rfl
theorem Lives_fo37_0 : fieldOff Try.prog 37 0 = some 0 := by kernel_rfl
theorem Lives_fo37_2 : fieldOff Try.prog 37 2 = some 2 := by kernel_rfl
theorem Lives_al63 : arrT Try.prog 63 = some (2, 2) := by kernel_rfl
theorem Lives_fo37_3 : fieldOff Try.prog 37 3 = some 3 := by kernel_rfl
theorem Lives_sz3 : sizeT Try.prog 3 = some 1 := by kernel_rfl
theorem Lives_pt46 : ptrT Try.prog 46 = true := by kernel_rfl
theorem Lives_sz46 : sizeT Try.prog 46 = some 1 := by kernel_rfl

set_option maxHeartbeats 4000000 in
theorem lives_c0 {V : Vw} {l : List Con.Ev} {p : Option Addr} {c : Nat} (hv : Rd V [] 3 (.slice p l.length c) l.length (l.map Con.Ev.cells).flatten) (hl : l.length ≤ 9223372036854775807)  : Does Try.prog 9 [.slice p l.length c] V [] (fun v _ _ => v = .bool true) := by
  refine Does.intro Try.func9 rfl rfl (le rfl) (fun B => ?_)
  refine Tr.seq ?_
  refine Tr.region ?_
  refine Run.val (lt rfl) (Y.assign rfl) ?_
  refine Run.to_end ?_
  refine Ex.go ?_
  refine Tr.seq ?_
  refine Tr.region ?_
  refine Run.call0 (l := []) rfl rfl rfl (lt rfl) awake19_c ?_
  refine Run.val (lt rfl) (Y.assign rfl) ?_
  refine Run.to_end ?_
  refine Ex.go ?_
  refine Tr.seq ?_
  refine Tr.region ?_
  refine Run.call [] (l := [.const (.int .i64 1)]) rfl rfl rfl (lt rfl) (new_c_yes (n := 1) (by decide)) (fun v2 V2 H2 _ hR => ?_)
  obtain ⟨hV, b1, rfl, rfl⟩ := hR; replace hV := hV.symm; subst hV
  refine Run.val (lt rfl) (Y.move rfl) ?_
  refine Run.val (lt rfl) (Y.extract rfl rfl) ?_
  refine Run.val (lt rfl) (Y.extract rfl rfl) ?_
  refine Run.val (lt rfl) (Y.assign rfl) ?_
  refine Run.val (lt rfl) (Y.assign rfl) ?_
  refine Run.to_end ?_
  refine Ex.go ?_
  refine Tr.seq ?_
  refine Tr.region ?_
  refine Run.call [] (l := [.const (.int .i64 1)]) rfl rfl rfl (lt rfl) (new_c_yes (n := 1) (by decide)) (fun v4 V2 H2 _ hR => ?_)
  obtain ⟨hV, b3, rfl, rfl⟩ := hR; replace hV := hV.symm; subst hV
  refine Run.val (lt rfl) (Y.move rfl) ?_
  refine Run.val (lt rfl) (Y.extract rfl rfl) ?_
  refine Run.val (lt rfl) (Y.extract rfl rfl) ?_
  refine Run.val (lt rfl) (Y.assign rfl) ?_
  refine Run.val (lt rfl) (Y.assign rfl) ?_
  refine Run.to_end ?_
  refine Ex.go ?_
  refine Tr.seq ?_
  refine Tr.seq ?_
  refine Tr.region ?_
  refine Run.val (lt rfl) (Y.move rfl) ?_
  refine Run.val (lt rfl) (Y.not rfl) ?_
  refine Run.val (lt rfl) (Y.move rfl) ?_
  refine Run.on rfl rfl rfl rfl ?_
  refine Run.val (lt rfl) (Y.move rfl) ?_
  refine Run.on rfl rfl rfl rfl ?_
  refine Run.val (lt rfl) (Y.int (r := .bool false) rfl rfl rfl) ?_
  refine Run.val (lt rfl) (Y.pick_f rfl rfl rfl) ?_
  refine Run.val (lt rfl) (Y.move rfl) ?_
  refine Run.on rfl rfl rfl rfl ?_
  refine Run.val (lt rfl) (Y.move rfl) ?_
  refine Run.on rfl rfl rfl rfl ?_
  refine Run.val (lt rfl) (Y.int (r := .bool false) rfl rfl rfl) ?_
  refine Run.val (lt rfl) (Y.pick_f rfl rfl rfl) ?_
  refine Run.to_end ?_
  refine Ex.go ?_
  refine Tr.cond_f rfl rfl ?_
  refine Tr.to_end ?_
  refine Ex.go ?_
  refine Tr.seq ?_
  refine Tr.region ?_
  refine Run.val (lt rfl) (Y.move rfl) ?_
  refine Run.val (lt rfl) (Y.move rfl) ?_
  refine Run.val (lt rfl) (Y.buildA (l := [(0, .tmp 41), (1, .tmp 42)]) Lives_zo60 Lives_ea60 rfl rfl) ?_
  refine Run.alloc Lives_zo60 (lt rfl) (fun b5 => ?_)
  refine Run.store (s := [(b5, .cells #[.pointer (some ⟨b1, 0, none⟩), .pointer (some ⟨b3, 0, none⟩)] 60 (0, 0))]) rfl rfl Lives_sz60 (i := 0) rfl rfl (le rfl) rfl rfl ?_
  refine Run.to_end ?_
  refine Ex.go ?_
  refine Tr.seq ?_
  refine Tr.region ?_
  refine Run.val (lt rfl) (Y.buildA (l := [(0, .const (.int .i64 1)), (1, .const (.int .i64 1))]) Lives_zo24 Lives_ea24 rfl rfl) ?_
  refine Run.alloc Lives_zo24 (lt rfl) (fun b6 => ?_)
  refine Run.store (s := [(b6, .cells #[.int .i64 1, .int .i64 1] 24 (0, 0))]) rfl rfl Lives_sz24 (i := 0) rfl rfl (le rfl) rfl rfl ?_
  refine Run.to_end ?_
  refine Ex.go ?_
  refine Tr.seq ?_
  refine Tr.region ?_
  refine Run.alloc Lives_zo62 (lt rfl) (fun b7 => ?_)
  refine Run.to_end ?_
  refine Ex.go ?_
  refine Tr.seq ?_
  refine Tr.region ?_
  refine Run.val (lt rfl) (Y.buildA (l := []) Lives_zo63 Lives_ea63 rfl rfl) ?_
  refine Run.alloc Lives_zo63 (lt rfl) (fun b8 => ?_)
  refine Run.store (s := [(b8, .cells #[.int .i64 0, .int .i64 0, .int .i64 0, .int .i64 0] 63 (0, 0))]) rfl rfl Lives_sz63 (i := 0) rfl rfl (le rfl) rfl rfl ?_
  refine Run.to_end ?_
  refine Ex.go ?_
  refine Tr.seq ?_
  refine Tr.region ?_
  refine Run.val (lt rfl) (Y.assign rfl) ?_
  refine Run.to_end ?_
  refine Ex.go ?_
  refine Tr.seq ?_
  refine Tr.seq ?_
  refine Tr.region ?_
  refine Run.nilseg ?_
  refine Run.nilseg ?_
  refine Run.val (lt rfl) (Y.assign rfl) ?_
  refine Run.to_end ?_
  refine Ex.go ?_
  refine Tr.block ?_
  refine Tr.loop (X := Con.Sd × Con.Sd × Int × Nat) (fun x => V) (fun x => [x.1.q, x.2.1.q, [(b8, .cells #[.int .i64 x.1.a, .int .i64 x.1.d, .int .i64 x.2.1.a, .int .i64 x.2.1.d] 63 (0, 0))], [(b7, .cells #[.slice x.1.p x.1.n x.1.k, .slice x.2.1.p x.2.1.n x.2.1.k] 62 (0, 0))], [(b6, .cells #[.int .i64 x.1.m, .int .i64 x.2.1.m] 24 (0, 0))], [(b5, .cells #[.pointer (some ⟨x.1.b, 0, none⟩), .pointer (some ⟨x.2.1.b, 0, none⟩)] 60 (0, 0))], [(x.1.b, .cells #[.int .i64 x.1.c.known, .int .i64 x.1.c.hello, .int .i64 x.1.c.st, .int .i64 x.1.c.mine, .int .i64 x.1.c.said, .int .i64 x.1.c.at_, .bool x.1.c.up] 95 (0, 0))], [(x.2.1.b, .cells #[.int .i64 x.2.1.c.known, .int .i64 x.2.1.c.hello, .int .i64 x.2.1.c.st, .int .i64 x.2.1.c.mine, .int .i64 x.2.1.c.said, .int .i64 x.2.1.c.at_, .bool x.2.1.c.up] 95 (0, 0))]]) (fun x => [(0, .slice p l.length c), (8, .pointer (some ⟨b5, 0, none⟩)), (9, .pointer (some ⟨b6, 0, none⟩)), (10, .pointer (some ⟨b7, 0, none⟩)), (11, .pointer (some ⟨b8, 0, none⟩)), (12, .int .i64 x.2.2.1), (13, .int .i64 (x.2.2.2 : Int))]) (fun x => x.1.ok 37 x.2.1 x.2.2.2 ∧ x.2.1.ok 37 x.1 x.2.2.2 ∧ (0 ≤ x.2.2.1 ∧ x.2.2.1 ≤ 3 * (x.2.2.2 : Int)) ∧ x.2.2.2 ≤ 250 ∧ x.2.2.2 ≤ l.length) (fun x => l.length - x.2.2.2) ((⟨b1, Con.new 1, 1, none, 0, 0, [], [], [], 0, 0⟩ : Con.Sd), (⟨b3, Con.new 1, 1, none, 0, 0, [], [], [], 0, 0⟩ : Con.Sd), (0 : Int), (0 : Nat)) ⟨Con.Sd.first (Int.le_refl 1), Con.Sd.first (Int.le_refl 1), ⟨Int.le_refl 0, Int.le_refl 0⟩, Nat.zero_le _, Nat.zero_le _⟩ (fun a w i => ⟨i.1.sub (subB_cons (by first | rfl | exact congrArg (fun z => some (Value.int _ z)) (by omega)) (subB_cons (by first | rfl | exact congrArg (fun z => some (Value.int _ z)) (by omega)) (subB_cons (by first | rfl | exact congrArg (fun z => some (Value.int _ z)) (by omega)) (subB_cons (by first | rfl | exact congrArg (fun z => some (Value.int _ z)) (by omega)) (subB_cons (by first | rfl | exact congrArg (fun z => some (Value.int _ z)) (by omega)) (subB_cons (by first | rfl | exact congrArg (fun z => some (Value.int _ z)) (by omega)) (subB_cons (by first | rfl | exact congrArg (fun z => some (Value.int _ z)) (by omega)) (subB_nil _)))))))), i.2⟩) ?_
  rintro ⟨⟨bA, cA, mA, pA, nA, kA, qA, xA, lA, aA, dA⟩, ⟨bB, cB, mB, pB, nB, kB, qB, xB, lB, aB, dB⟩, now, i⟩ ⟨hsA, hsB, hnow, hi, hil⟩
  dsimp only at hsA hsB hnow hi hil ⊢
  have hmA : cA.mine = mA := hsA.mine
  have ownA : Ow 37 11 (.slice pA nA kA) nA xA qA := hsA.own
  have hnA : nA ≤ i := hsA.many
  have hfA : mA ≤ i + 1 := hsA.few
  have honeA : 1 ≤ mA := hsA.one
  have hmB : cB.mine = mB := hsB.mine
  have ownB : Ow 37 11 (.slice pB nB kB) nB xB qB := hsB.own
  have hnB : nB ≤ i := hsB.many
  have hfB : mB ≤ i + 1 := hsB.few
  have honeB : 1 ≤ mB := hsB.one
  refine Tr.seq ?_
  refine Tr.seq ?_
  refine Tr.region ?_
  refine Run.val (lt rfl) (Y.move rfl) ?_
  refine Run.val (lt rfl) (Y.move rfl) ?_
  refine Run.val (lt rfl) (Y.lenSl rfl Lives_es59) ?_
  refine Run.val (lt rfl) (Y.int rfl rfl rfl) ?_
  refine Run.val (lt rfl) (Y.move rfl) ?_
  rcases Bool.eq_false_or_eq_true (decide ((i : Int) < ((l.length : Nat) : Int))) with h9 | h9
  · have g9 := h9
    try simp only [kb] at g9
    obtain ⟨b, off, c2, cs, et, fz, hw, hc, hk, hcs⟩ := hv.opened (by omega)
    obtain ⟨rfl, rfl⟩ : p = some ⟨b, off, none⟩ ∧ c = c2 := by cases hw; exact ⟨rfl, rfl⟩
    clear hw
    have hrow := row_at (f := Con.Ev.cells) Con.Ev.len hcs (i := i) (by omega) (Nat.le_refl _) Con.Ev.dflt
    generalize he : l.getD i Con.Ev.dflt = e at hrow
    refine Run.on rfl rfl rfl h9 ?_
    refine Run.val (lt rfl) (Y.move rfl) ?_
    refine Run.on rfl rfl rfl h9 ?_
    refine Run.val (lt rfl) (Y.int rfl rfl rfl) ?_
    refine Run.val (lt rfl) (Y.pick_t rfl h9 rfl) ?_
    refine Run.to_end ?_
    refine Ex.go ?_
    rcases Bool.eq_false_or_eq_true (decide ((i : Int) < 250)) with h10 | h10
    · have g10 := h10
      try simp only [kb] at g10
      refine Tr.cond_t rfl h10 ?_
      refine Tr.to_end ?_
      refine Ex.go ?_
      refine Tr.seq ?_
      refine Tr.block ?_
      refine Tr.seq ?_
      refine Tr.region ?_
      refine Run.val (lt rfl) (Y.move rfl) ?_
      refine Run.val (lt rfl) (Y.move rfl) ?_
      refine Run.val (lt rfl) (Y.idxAddr rfl rfl Lives_es59 (by omega) (by omega)) ?_
      refine Run.val (lt rfl) (Y.fieldAddr rfl Lives_fo65_1) ?_
      refine Run.val (lt rfl) (Y.load rfl Lives_ts3 hk.of_nil (hrow 1 (by decide))) ?_
      rcases (show e.who % 2 = 0 ∨ e.who % 2 = 1 by omega) with hwho | hwho
      · refine Run.val (lt rfl) (Y.int (r := .int .i64 0) rfl rfl (by simp only [intRes]; rw [and_low e.who 1 2 1 (by decide) rfl rfl, hwho])) ?_
        refine Run.val (lt rfl) (Y.assign rfl) ?_
        refine Run.to_end ?_
        refine Ex.go ?_
        refine Tr.seq ?_
        refine Tr.seq ?_
        refine Tr.region ?_
        refine Run.val (lt rfl) (Y.move rfl) ?_
        refine Run.val (lt rfl) (Y.move rfl) ?_
        refine Run.val (lt rfl) (Y.idxAddr rfl rfl Lives_es59 (by omega) (by omega)) ?_
        refine Run.val (lt rfl) (Y.fieldAddr rfl Lives_fo65_0) ?_
        refine Run.val (lt rfl) (Y.load rfl Lives_ts3 hk.of_nil (hrow 0 (by decide))) ?_
        refine Run.to_end ?_
        refine Ex.go ?_
        refine Tr.block ?_
        refine Tr.seq ?_
        refine Tr.region ?_
        refine Run.val (lt rfl) (Y.int rfl rfl rfl) ?_
        refine Run.val (lt rfl) (Y.assign rfl) ?_
        refine Run.to_end ?_
        refine Ex.go ?_
        rcases Bool.eq_false_or_eq_true (e.do_ == 0) with h11 | h11
        · have g11 := h11
          try simp only [kb] at g11
          have hE : Con.helloE cA (e.n % 8) = 0 := hsA.helloE (by omega) (by omega)
          refine Tr.cond_t rfl h11 ?_
          refine Tr.seq ?_
          refine Tr.anyD [(b5, .cells #[.pointer (some ⟨bA, 0, none⟩), .pointer (some ⟨bB, 0, none⟩)] 60 (0, 0)), (b, .cells cs et fz)] Lives_mo ?_
          refine RunD.pure (i := 0) rfl (by kernel_rfl) (by kernel_rfl) (by kernel_rfl) (fun _ _ _ h => h) (lt rfl) (KnAll.cons (Kn.at 5 rfl) (KnAll.cons hk.of_nil KnAll.nil)) (fun _ => (Y.move rfl)) ?_
          refine RunD.pure (i := 1) rfl (by kernel_rfl) (by kernel_rfl) (by kernel_rfl) (fun _ _ _ h => h) (lt rfl) (KnAll.cons (Kn.at 5 rfl) (KnAll.cons hk.of_nil KnAll.nil)) (fun _ => (Y.idxArr rfl rfl Lives_al60 (by decide) (by decide))) ?_
          refine RunD.take (i := 2) 0 rfl rfl (by kernel_rfl) (by kernel_rfl) (by kernel_rfl) (fun _ _ _ h => h) (lt rfl) (KnAll.cons (Kn.at 5 rfl) (KnAll.cons hk.of_nil KnAll.nil)) (fun _ => (Y.load rfl Lives_ts46 Kn.vk1 rfl)) ?_
          refine RunD.pure (i := 3) rfl (by kernel_rfl) (by kernel_rfl) (by kernel_rfl) (fun _ _ _ h => h) (lt rfl) (KnAll.cons (Kn.at 5 rfl) (KnAll.cons hk.of_nil KnAll.nil)) (fun _ => (Y.move rfl)) ?_
          refine RunD.pure (i := 4) rfl (by kernel_rfl) (by kernel_rfl) (by kernel_rfl) (fun _ _ _ h => h) (lt rfl) (KnAll.cons (Kn.at 5 rfl) (KnAll.cons hk.of_nil KnAll.nil)) (fun _ => (Y.move rfl)) ?_
          refine RunD.pure (i := 5) rfl (by kernel_rfl) (by kernel_rfl) (by kernel_rfl) (fun _ _ _ h => h) (lt rfl) (KnAll.cons (Kn.at 5 rfl) (KnAll.cons hk.of_nil KnAll.nil)) (fun _ => (Y.idxAddr rfl rfl Lives_es59 (by omega) (by omega))) ?_
          refine RunD.pure (i := 6) rfl (by kernel_rfl) (by kernel_rfl) (by kernel_rfl) (fun _ _ _ h => h) (lt rfl) (KnAll.cons (Kn.at 5 rfl) (KnAll.cons hk.of_nil KnAll.nil)) (fun _ => (Y.fieldAddr rfl Lives_fo65_2)) ?_
          refine RunD.take (i := 7) 1 rfl rfl (by kernel_rfl) (by kernel_rfl) (by kernel_rfl) (fun _ _ _ h => h) (lt rfl) (KnAll.cons (Kn.at 5 rfl) (KnAll.cons hk.of_nil KnAll.nil)) (fun _ => (Y.load rfl Lives_ts3 Kn.vk1 (hrow 2 (by decide)))) ?_
          refine RunD.pure (i := 8) rfl (by kernel_rfl) (by kernel_rfl) (by kernel_rfl) (fun _ _ _ h => h) (lt rfl) (KnAll.cons (Kn.at 5 rfl) (KnAll.cons hk.of_nil KnAll.nil)) (fun _ => (Y.int (r := .int .i64 (e.n % 8)) rfl rfl (by simp only [intRes]; rw [and_low e.n 7 8 3 (by decide) rfl rfl]))) ?_
          refine RunD.two (i := 9) (j := 13) (by kernel_rfl) rfl rfl  ?_ ?_ 
          · refine Run.call [6] (l := [.tmp 72, .tmp 78]) rfl rfl rfl (lt rfl) (hello_c (c := cA) (n := e.n % 8) hsA.inv) (fun v12 V2 H2 _ hR => ?_)
            obtain ⟨hV, rfl, rfl⟩ := hR; replace hV := hV.symm; subst hV
            refine Run.to_end ?_
            refine Ex.anyD (KnAll.cons (Kn.at 5 rfl) (KnAll.cons hk.of_nil KnAll.nil)) ?_
            refine RunD.pure (i := 10) rfl (by kernel_rfl) (by kernel_rfl) (by kernel_rfl) (fun _ _ _ h => h) (lt rfl) (KnAll.cons (Kn.at 5 rfl) (KnAll.cons hk.of_nil KnAll.nil)) (fun _ => (Y.move rfl)) ?_
            refine RunD.pure (i := 11) rfl (by kernel_rfl) (by kernel_rfl) (by kernel_rfl) (fun _ _ _ h => h) (lt rfl) (KnAll.cons (Kn.at 5 rfl) (KnAll.cons hk.of_nil KnAll.nil)) (fun _ => (Y.extract rfl rfl)) ?_
            refine RunD.pure (i := 12) rfl (by kernel_rfl) (by kernel_rfl) (by kernel_rfl) (fun _ _ _ h => h) (lt rfl) (KnAll.cons (Kn.at 5 rfl) (KnAll.cons hk.of_nil KnAll.nil)) (fun _ => (Y.extract rfl rfl)) ?_
            refine RunD.one (i := 13) (by kernel_rfl) rfl  ?_ 
            refine Run.alloc Lives_zo37 (lt rfl) (fun b13 => ?_)
            refine Run.to_end ?_
            refine Ex.anyD (KnAll.cons (Kn.at 6 rfl) (KnAll.cons hk.of_nil KnAll.nil)) ?_
            refine RunD.one (i := 14) (by kernel_rfl) rfl  ?_ 
            refine Run.store (s := [(b13, .cells #[.int .i64 ((Con.helloM cA (e.n % 8)).kind), .int .i64 ((Con.helloM cA (e.n % 8)).life), .int .i64 ((Con.helloM cA (e.n % 8)).seen), .int .i64 ((Con.helloM cA (e.n % 8)).xid), .int .i64 ((Con.helloM cA (e.n % 8)).state), .int .u32 ((Con.helloM cA (e.n % 8)).addr), .int .i64 ((Con.helloM cA (e.n % 8)).bind), .string ((Con.helloM cA (e.n % 8)).client), .int .i64 ((Con.helloM cA (e.n % 8)).pot), .int .i64 ((Con.helloM cA (e.n % 8)).at_), .bool ((Con.helloM cA (e.n % 8)).ok)] 37 (0, 0))]) rfl rfl Lives_sz37 (i := 0) rfl rfl (le rfl) rfl rfl ?_
            refine Run.to_end ?_
            refine Ex.anyD (KnAll.cons (Kn.at 6 rfl) (KnAll.cons hk.of_nil KnAll.nil)) ?_
            refine RunD.pure (i := 15) rfl (by kernel_rfl) (by kernel_rfl) (by kernel_rfl) (fun _ _ _ h => h) (lt rfl) (KnAll.cons (Kn.at 6 rfl) (KnAll.cons hk.of_nil KnAll.nil)) (fun _ => (Y.assign rfl)) ?_
            refine RunD.done (by kernel_rfl) ?_
            refine Ex.go ?_
            refine Tr.seq ?_
            refine Tr.seq ?_
            refine Tr.quiet Lives_mo (by kernel_rfl) ?_
            refine RunQ.val (lt rfl) (Y.move rfl) ?_
            refine RunQ.val (lt rfl) (Y.int rfl rfl rfl) ?_
            refine RunQ.val (lt rfl) (Y.move rfl) ?_
            refine RunQ.on rfl rfl rfl (by rw [hE]; rfl) ?_
            refine RunQ.val (lt rfl) (Y.fieldAddr rfl Lives_fo37_1) ?_
            refine RunQ.on rfl rfl rfl (by rw [hE]; rfl) ?_
            refine RunQ.val (lt rfl) (Y.load rfl Lives_ts3 (Kn.at 0 rfl) rfl) ?_
            refine RunQ.on rfl rfl rfl (by rw [hE]; rfl) ?_
            refine RunQ.val (lt rfl) (Y.move rfl) ?_
            refine RunQ.on rfl rfl rfl (by rw [hE]; rfl) ?_
            refine RunQ.val (lt rfl) (Y.idxArr rfl rfl Lives_al24 (by decide) (by decide)) ?_
            refine RunQ.on rfl rfl rfl (by rw [hE]; rfl) ?_
            refine RunQ.val (lt rfl) (Y.load rfl Lives_ts3 (Kn.at 5 rfl) rfl) ?_
            refine RunQ.on rfl rfl rfl (by rw [hE]; rfl) ?_
            refine RunQ.val (lt rfl) (Y.int rfl rfl rfl) ?_
            refine RunQ.val (lt rfl) (Y.pick_f rfl (by rw [hE]; rfl) rfl) ?_
            refine RunQ.to_end ?_
            refine Ex.go ?_
            refine Tr.cond_f rfl (by rw [(Con.hello_yes hE).2]; simp [Con.mark, hmA]) ?_
            refine Tr.to_end ?_
            refine Ex.go ?_
            refine Tr.anyL [(b7, .cells #[.slice pA nA kA, .slice pB nB kB] 62 (0, 0)), (b13, .cells #[.int .i64 ((Con.helloM cA (e.n % 8)).kind), .int .i64 ((Con.helloM cA (e.n % 8)).life), .int .i64 ((Con.helloM cA (e.n % 8)).seen), .int .i64 ((Con.helloM cA (e.n % 8)).xid), .int .i64 ((Con.helloM cA (e.n % 8)).state), .int .u32 ((Con.helloM cA (e.n % 8)).addr), .int .i64 ((Con.helloM cA (e.n % 8)).bind), .string ((Con.helloM cA (e.n % 8)).client), .int .i64 ((Con.helloM cA (e.n % 8)).pot), .int .i64 ((Con.helloM cA (e.n % 8)).at_), .bool ((Con.helloM cA (e.n % 8)).ok)] 37 (0, 0))] 8 Lives_mo ?_
            refine RunL.pure (i := 0) rfl (by kernel_rfl) (by kernel_rfl) (by kernel_rfl) (by kernel_rfl) (fun _ _ _ h => h) (lt rfl) (KnAll.cons (Kn.at 4 rfl) (KnAll.cons (Kn.at 0 rfl) KnAll.nil)) (fun _ => (Y.move rfl)) ?_
            refine RunL.pure (i := 1) rfl (by kernel_rfl) (by kernel_rfl) (by kernel_rfl) (by kernel_rfl) (fun _ _ _ h => h) (lt rfl) (KnAll.cons (Kn.at 4 rfl) (KnAll.cons (Kn.at 0 rfl) KnAll.nil)) (fun _ => (Y.move rfl)) ?_
            refine RunL.pure (i := 2) rfl (by kernel_rfl) (by kernel_rfl) (by kernel_rfl) (by kernel_rfl) (fun _ _ _ h => h) (lt rfl) (KnAll.cons (Kn.at 4 rfl) (KnAll.cons (Kn.at 0 rfl) KnAll.nil)) (fun _ => (Y.idxArr rfl rfl Lives_al62 (by decide) (by decide))) ?_
            refine RunL.take (i := 3) 0 rfl rfl (by kernel_rfl) (by kernel_rfl) (by kernel_rfl) (by kernel_rfl) (fun _ _ _ h => h) (lt rfl) (KnAll.cons (Kn.at 4 rfl) (KnAll.cons (Kn.at 0 rfl) KnAll.nil)) (fun _ => (Y.load rfl Lives_ts61 Kn.vk1 rfl)) ?_
            refine RunL.take (i := 4) 1 rfl rfl (by kernel_rfl) (by kernel_rfl) (by kernel_rfl) (by kernel_rfl) (fun _ _ _ h => h) (lt rfl) (KnAll.cons (Kn.at 4 rfl) (KnAll.cons (Kn.at 0 rfl) KnAll.nil)) (fun _ => (Y.loadAgg rfl Lives_ag37 Kn.vk1 rfl)) ?_
            refine RunL.one (i := 5) (by kernel_rfl) rfl  ?_ 
            refine Run.buildSlice (l := [(0, .tmp 96)]) (r := [.int .i64 ((Con.helloM cA (e.n % 8)).kind), .int .i64 ((Con.helloM cA (e.n % 8)).life), .int .i64 ((Con.helloM cA (e.n % 8)).seen), .int .i64 ((Con.helloM cA (e.n % 8)).xid), .int .i64 ((Con.helloM cA (e.n % 8)).state), .int .u32 ((Con.helloM cA (e.n % 8)).addr), .int .i64 ((Con.helloM cA (e.n % 8)).bind), .string ((Con.helloM cA (e.n % 8)).client), .int .i64 ((Con.helloM cA (e.n % 8)).pot), .int .i64 ((Con.helloM cA (e.n % 8)).at_), .bool ((Con.helloM cA (e.n % 8)).ok)]) Lives_es61 Lives_zo37 rfl (by decide) rfl rfl (by decide) (lt rfl) (fun b14 => ?_)
            refine Run.to_end ?_
            refine Ex.anyL (KnAll.cons (Kn.at 5 rfl) (KnAll.cons (Kn.at 1 rfl) KnAll.nil)) ?_
            refine RunL.one (i := 6) (by kernel_rfl) rfl  ?_ 
            refine Run.append (n := nA) (m := 1) (xs := xA) (ys := [.int .i64 ((Con.helloM cA (e.n % 8)).kind), .int .i64 ((Con.helloM cA (e.n % 8)).life), .int .i64 ((Con.helloM cA (e.n % 8)).seen), .int .i64 ((Con.helloM cA (e.n % 8)).xid), .int .i64 ((Con.helloM cA (e.n % 8)).state), .int .u32 ((Con.helloM cA (e.n % 8)).addr), .int .i64 ((Con.helloM cA (e.n % 8)).bind), .string ((Con.helloM cA (e.n % 8)).client), .int .i64 ((Con.helloM cA (e.n % 8)).pot), .int .i64 ((Con.helloM cA (e.n % 8)).at_), .bool ((Con.helloM cA (e.n % 8)).ok)]) rfl rfl Lives_es61 Lives_zi37 (by decide) (j := 2) rfl ownA (Src.of_rd Lives_es61 (Rd.one (Kn.at 0 rfl) rfl)) (by omega) (by omega) rfl (lt rfl) (fun v15 s16 ho17 hf => ?_)
            obtain ⟨p15, c15, rfl⟩ := hf
            refine Run.to_end ?_
            refine Ex.anyL (KnAll.cons (Kn.at 5 rfl) (KnAll.cons (Kn.at 1 rfl) KnAll.nil)) ?_
            refine RunL.pure (i := 7) rfl (by kernel_rfl) (by kernel_rfl) (by kernel_rfl) (by kernel_rfl) (fun _ _ _ h => h) (lt rfl) (KnAll.cons (Kn.at 5 rfl) (KnAll.cons (Kn.at 1 rfl) KnAll.nil)) (fun _ => (Y.idxArr rfl rfl Lives_al62 (by decide) (by decide))) ?_
            refine RunL.one (i := 8) (by kernel_rfl) rfl  ?_ 
            refine Run.store (s := [(b7, .cells #[.slice p15 (nA + 1) c15, .slice pB nB kB] 62 (0, 0))]) rfl rfl Lives_sz61 (i := 5) rfl rfl (le rfl) rfl rfl ?_
            refine Run.to_end ?_
            refine Ex.anyLz rfl ?_
            refine RunL.done (by kernel_rfl) ?_
            refine Ex.end_block ?_
            refine Ex.go ?_
            refine Tr.seq ?_
            refine Tr.quiet Lives_mo (by kernel_rfl) ?_
            have hokA : Con.Sd.ok 37 ⟨bA, (Con.helloC cA (e.n % 8)), mA, p15, (nA + 1), c15, s16, xA ++ [.int .i64 ((Con.helloM cA (e.n % 8)).kind), .int .i64 ((Con.helloM cA (e.n % 8)).life), .int .i64 ((Con.helloM cA (e.n % 8)).seen), .int .i64 ((Con.helloM cA (e.n % 8)).xid), .int .i64 ((Con.helloM cA (e.n % 8)).state), .int .u32 ((Con.helloM cA (e.n % 8)).addr), .int .i64 ((Con.helloM cA (e.n % 8)).bind), .string ((Con.helloM cA (e.n % 8)).client), .int .i64 ((Con.helloM cA (e.n % 8)).pot), .int .i64 ((Con.helloM cA (e.n % 8)).at_), .bool ((Con.helloM cA (e.n % 8)).ok)], lA ++ [Con.helloM cA (e.n % 8)], aA, dA⟩ ⟨bB, cB, mB, pB, nB, kB, qB, xB, lB, aB, dB⟩ (i + 1) := hsA.hello hE ho17 rfl rfl
            have hokB : Con.Sd.ok 37 ⟨bB, cB, mB, pB, nB, kB, qB, xB, lB, aB, dB⟩ ⟨bA, (Con.helloC cA (e.n % 8)), mA, p15, (nA + 1), c15, s16, xA ++ [.int .i64 ((Con.helloM cA (e.n % 8)).kind), .int .i64 ((Con.helloM cA (e.n % 8)).life), .int .i64 ((Con.helloM cA (e.n % 8)).seen), .int .i64 ((Con.helloM cA (e.n % 8)).xid), .int .i64 ((Con.helloM cA (e.n % 8)).state), .int .u32 ((Con.helloM cA (e.n % 8)).addr), .int .i64 ((Con.helloM cA (e.n % 8)).bind), .string ((Con.helloM cA (e.n % 8)).client), .int .i64 ((Con.helloM cA (e.n % 8)).pot), .int .i64 ((Con.helloM cA (e.n % 8)).at_), .bool ((Con.helloM cA (e.n % 8)).ok)], lA ++ [Con.helloM cA (e.n % 8)], aA, dA⟩ (i + 1) := hsB.rest (Int.le_refl _)
            refine RunQ.val (lt rfl) (Y.move rfl) ?_
            refine RunQ.val (lt rfl) (Y.idxArr rfl rfl Lives_al60 (by decide) (by decide)) ?_
            refine RunQ.val (lt rfl) (Y.load rfl Lives_ts46 (Kn.at 7 rfl) rfl) ?_
            refine RunQ.call0 (l := [.tmp 249]) rfl rfl rfl (lt rfl) (other_c (c := (Con.helloC cA (e.n % 8))) (Kn.at 9 rfl)) ?_
            refine RunQ.val (lt rfl) (Y.move rfl) ?_
            refine RunQ.val (lt rfl) (Y.int (r := .int .i64 1) rfl rfl rfl) ?_
            refine RunQ.val (lt rfl) (Y.idxArr rfl rfl Lives_al24 (by decide) (by decide)) ?_
            refine RunQ.val (lt rfl) (Y.load rfl Lives_ts3 (Kn.at 6 rfl) rfl) ?_
            refine RunQ.val (lt rfl) (Y.int rfl rfl rfl) ?_
            refine RunQ.to_end ?_
            refine Ex.go ?_
            refine Tr.cond_f rfl (decide_eq_false (Int.not_lt.2 hokA.known)) ?_
            refine Tr.to_end ?_
            refine Ex.end_block ?_
            refine Ex.go ?_
            refine Tr.region ?_
            refine Run.val (lt rfl) (Y.move rfl) ?_
            refine Run.val (lt rfl) (Y.add rfl rfl (by omega)) ?_
            refine Run.val (lt rfl) (Y.assign rfl) ?_
            refine Run.to_end ?_
            refine Ex.keep [2, 2, 2, 2, 2, 2, 3, 2] ?_
            exact Ex.round ((⟨bA, (Con.helloC cA (e.n % 8)), mA, p15, (nA + 1), c15, s16, xA ++ [.int .i64 ((Con.helloM cA (e.n % 8)).kind), .int .i64 ((Con.helloM cA (e.n % 8)).life), .int .i64 ((Con.helloM cA (e.n % 8)).seen), .int .i64 ((Con.helloM cA (e.n % 8)).xid), .int .i64 ((Con.helloM cA (e.n % 8)).state), .int .u32 ((Con.helloM cA (e.n % 8)).addr), .int .i64 ((Con.helloM cA (e.n % 8)).bind), .string ((Con.helloM cA (e.n % 8)).client), .int .i64 ((Con.helloM cA (e.n % 8)).pot), .int .i64 ((Con.helloM cA (e.n % 8)).at_), .bool ((Con.helloM cA (e.n % 8)).ok)], lA ++ [Con.helloM cA (e.n % 8)], aA, dA⟩ : Con.Sd), (⟨bB, cB, mB, pB, nB, kB, qB, xB, lB, aB, dB⟩ : Con.Sd), (now : Int), i + 1) ⟨hokA, hokB, ⟨by show (0 : Int) ≤ now; omega, by show now ≤ 3 * ((i + 1 : Nat) : Int); omega⟩, by show i + 1 ≤ 250; omega, by show i + 1 ≤ l.length; omega⟩ (by show l.length - (i + 1) < l.length - i; omega) rfl rfl (subB_cons (by first | rfl | exact congrArg (fun z => some (Value.int _ z)) (by omega)) (subB_cons (by first | rfl | exact congrArg (fun z => some (Value.int _ z)) (by omega)) (subB_cons (by first | rfl | exact congrArg (fun z => some (Value.int _ z)) (by omega)) (subB_cons (by first | rfl | exact congrArg (fun z => some (Value.int _ z)) (by omega)) (subB_cons (by first | rfl | exact congrArg (fun z => some (Value.int _ z)) (by omega)) (subB_cons (by first | rfl | exact congrArg (fun z => some (Value.int _ z)) (by omega)) (subB_cons (by first | rfl | exact congrArg (fun z => some (Value.int _ z)) (by omega)) (subB_nil _))))))))
          · refine Run.alloc Lives_zo37 (lt rfl) (fun b18 => ?_)
            refine Run.to_end ?_
            refine Ex.anyD (KnAll.cons (Kn.at 6 rfl) (KnAll.cons hk.of_nil KnAll.nil)) ?_
            refine RunD.one (i := 9) (by kernel_rfl) rfl  ?_ 
            refine Run.call [7] (l := [.tmp 72, .tmp 78]) rfl rfl rfl (lt rfl) (hello_c (c := cA) (n := e.n % 8) hsA.inv) (fun v19 V2 H2 _ hR => ?_)
            obtain ⟨hV, rfl, rfl⟩ := hR; replace hV := hV.symm; subst hV
            refine Run.to_end ?_
            refine Ex.anyD (KnAll.cons (Kn.at 6 rfl) (KnAll.cons hk.of_nil KnAll.nil)) ?_
            refine RunD.pure (i := 10) rfl (by kernel_rfl) (by kernel_rfl) (by kernel_rfl) (fun _ _ _ h => h) (lt rfl) (KnAll.cons (Kn.at 6 rfl) (KnAll.cons hk.of_nil KnAll.nil)) (fun _ => (Y.move rfl)) ?_
            refine RunD.pure (i := 11) rfl (by kernel_rfl) (by kernel_rfl) (by kernel_rfl) (fun _ _ _ h => h) (lt rfl) (KnAll.cons (Kn.at 6 rfl) (KnAll.cons hk.of_nil KnAll.nil)) (fun _ => (Y.extract rfl rfl)) ?_
            refine RunD.pure (i := 12) rfl (by kernel_rfl) (by kernel_rfl) (by kernel_rfl) (fun _ _ _ h => h) (lt rfl) (KnAll.cons (Kn.at 6 rfl) (KnAll.cons hk.of_nil KnAll.nil)) (fun _ => (Y.extract rfl rfl)) ?_
            refine RunD.one (i := 14) (by kernel_rfl) rfl  ?_ 
            refine Run.store (s := [(b18, .cells #[.int .i64 ((Con.helloM cA (e.n % 8)).kind), .int .i64 ((Con.helloM cA (e.n % 8)).life), .int .i64 ((Con.helloM cA (e.n % 8)).seen), .int .i64 ((Con.helloM cA (e.n % 8)).xid), .int .i64 ((Con.helloM cA (e.n % 8)).state), .int .u32 ((Con.helloM cA (e.n % 8)).addr), .int .i64 ((Con.helloM cA (e.n % 8)).bind), .string ((Con.helloM cA (e.n % 8)).client), .int .i64 ((Con.helloM cA (e.n % 8)).pot), .int .i64 ((Con.helloM cA (e.n % 8)).at_), .bool ((Con.helloM cA (e.n % 8)).ok)] 37 (0, 0))]) rfl rfl Lives_sz37 (i := 0) rfl rfl (le rfl) rfl rfl ?_
            refine Run.to_end ?_
            refine Ex.anyD (KnAll.cons (Kn.at 6 rfl) (KnAll.cons hk.of_nil KnAll.nil)) ?_
            refine RunD.pure (i := 15) rfl (by kernel_rfl) (by kernel_rfl) (by kernel_rfl) (fun _ _ _ h => h) (lt rfl) (KnAll.cons (Kn.at 6 rfl) (KnAll.cons hk.of_nil KnAll.nil)) (fun _ => (Y.assign rfl)) ?_
            refine RunD.done (by kernel_rfl) ?_
            refine Ex.go ?_
            refine Tr.seq ?_
            refine Tr.seq ?_
            refine Tr.quiet Lives_mo (by kernel_rfl) ?_
            refine RunQ.val (lt rfl) (Y.move rfl) ?_
            refine RunQ.val (lt rfl) (Y.int rfl rfl rfl) ?_
            refine RunQ.val (lt rfl) (Y.move rfl) ?_
            refine RunQ.on rfl rfl rfl (by rw [hE]; rfl) ?_
            refine RunQ.val (lt rfl) (Y.fieldAddr rfl Lives_fo37_1) ?_
            refine RunQ.on rfl rfl rfl (by rw [hE]; rfl) ?_
            refine RunQ.val (lt rfl) (Y.load rfl Lives_ts3 (Kn.at 0 rfl) rfl) ?_
            refine RunQ.on rfl rfl rfl (by rw [hE]; rfl) ?_
            refine RunQ.val (lt rfl) (Y.move rfl) ?_
            refine RunQ.on rfl rfl rfl (by rw [hE]; rfl) ?_
            refine RunQ.val (lt rfl) (Y.idxArr rfl rfl Lives_al24 (by decide) (by decide)) ?_
            refine RunQ.on rfl rfl rfl (by rw [hE]; rfl) ?_
            refine RunQ.val (lt rfl) (Y.load rfl Lives_ts3 (Kn.at 5 rfl) rfl) ?_
            refine RunQ.on rfl rfl rfl (by rw [hE]; rfl) ?_
            refine RunQ.val (lt rfl) (Y.int rfl rfl rfl) ?_
            refine RunQ.val (lt rfl) (Y.pick_f rfl (by rw [hE]; rfl) rfl) ?_
            refine RunQ.to_end ?_
            refine Ex.go ?_
            refine Tr.cond_f rfl (by rw [(Con.hello_yes hE).2]; simp [Con.mark, hmA]) ?_
            refine Tr.to_end ?_
            refine Ex.go ?_
            refine Tr.anyL [(b7, .cells #[.slice pA nA kA, .slice pB nB kB] 62 (0, 0)), (b18, .cells #[.int .i64 ((Con.helloM cA (e.n % 8)).kind), .int .i64 ((Con.helloM cA (e.n % 8)).life), .int .i64 ((Con.helloM cA (e.n % 8)).seen), .int .i64 ((Con.helloM cA (e.n % 8)).xid), .int .i64 ((Con.helloM cA (e.n % 8)).state), .int .u32 ((Con.helloM cA (e.n % 8)).addr), .int .i64 ((Con.helloM cA (e.n % 8)).bind), .string ((Con.helloM cA (e.n % 8)).client), .int .i64 ((Con.helloM cA (e.n % 8)).pot), .int .i64 ((Con.helloM cA (e.n % 8)).at_), .bool ((Con.helloM cA (e.n % 8)).ok)] 37 (0, 0))] 8 Lives_mo ?_
            refine RunL.pure (i := 0) rfl (by kernel_rfl) (by kernel_rfl) (by kernel_rfl) (by kernel_rfl) (fun _ _ _ h => h) (lt rfl) (KnAll.cons (Kn.at 4 rfl) (KnAll.cons (Kn.at 0 rfl) KnAll.nil)) (fun _ => (Y.move rfl)) ?_
            refine RunL.pure (i := 1) rfl (by kernel_rfl) (by kernel_rfl) (by kernel_rfl) (by kernel_rfl) (fun _ _ _ h => h) (lt rfl) (KnAll.cons (Kn.at 4 rfl) (KnAll.cons (Kn.at 0 rfl) KnAll.nil)) (fun _ => (Y.move rfl)) ?_
            refine RunL.pure (i := 2) rfl (by kernel_rfl) (by kernel_rfl) (by kernel_rfl) (by kernel_rfl) (fun _ _ _ h => h) (lt rfl) (KnAll.cons (Kn.at 4 rfl) (KnAll.cons (Kn.at 0 rfl) KnAll.nil)) (fun _ => (Y.idxArr rfl rfl Lives_al62 (by decide) (by decide))) ?_
            refine RunL.take (i := 3) 0 rfl rfl (by kernel_rfl) (by kernel_rfl) (by kernel_rfl) (by kernel_rfl) (fun _ _ _ h => h) (lt rfl) (KnAll.cons (Kn.at 4 rfl) (KnAll.cons (Kn.at 0 rfl) KnAll.nil)) (fun _ => (Y.load rfl Lives_ts61 Kn.vk1 rfl)) ?_
            refine RunL.take (i := 4) 1 rfl rfl (by kernel_rfl) (by kernel_rfl) (by kernel_rfl) (by kernel_rfl) (fun _ _ _ h => h) (lt rfl) (KnAll.cons (Kn.at 4 rfl) (KnAll.cons (Kn.at 0 rfl) KnAll.nil)) (fun _ => (Y.loadAgg rfl Lives_ag37 Kn.vk1 rfl)) ?_
            refine RunL.one (i := 5) (by kernel_rfl) rfl  ?_ 
            refine Run.buildSlice (l := [(0, .tmp 96)]) (r := [.int .i64 ((Con.helloM cA (e.n % 8)).kind), .int .i64 ((Con.helloM cA (e.n % 8)).life), .int .i64 ((Con.helloM cA (e.n % 8)).seen), .int .i64 ((Con.helloM cA (e.n % 8)).xid), .int .i64 ((Con.helloM cA (e.n % 8)).state), .int .u32 ((Con.helloM cA (e.n % 8)).addr), .int .i64 ((Con.helloM cA (e.n % 8)).bind), .string ((Con.helloM cA (e.n % 8)).client), .int .i64 ((Con.helloM cA (e.n % 8)).pot), .int .i64 ((Con.helloM cA (e.n % 8)).at_), .bool ((Con.helloM cA (e.n % 8)).ok)]) Lives_es61 Lives_zo37 rfl (by decide) rfl rfl (by decide) (lt rfl) (fun b20 => ?_)
            refine Run.to_end ?_
            refine Ex.anyL (KnAll.cons (Kn.at 5 rfl) (KnAll.cons (Kn.at 1 rfl) KnAll.nil)) ?_
            refine RunL.one (i := 6) (by kernel_rfl) rfl  ?_ 
            refine Run.append (n := nA) (m := 1) (xs := xA) (ys := [.int .i64 ((Con.helloM cA (e.n % 8)).kind), .int .i64 ((Con.helloM cA (e.n % 8)).life), .int .i64 ((Con.helloM cA (e.n % 8)).seen), .int .i64 ((Con.helloM cA (e.n % 8)).xid), .int .i64 ((Con.helloM cA (e.n % 8)).state), .int .u32 ((Con.helloM cA (e.n % 8)).addr), .int .i64 ((Con.helloM cA (e.n % 8)).bind), .string ((Con.helloM cA (e.n % 8)).client), .int .i64 ((Con.helloM cA (e.n % 8)).pot), .int .i64 ((Con.helloM cA (e.n % 8)).at_), .bool ((Con.helloM cA (e.n % 8)).ok)]) rfl rfl Lives_es61 Lives_zi37 (by decide) (j := 2) rfl ownA (Src.of_rd Lives_es61 (Rd.one (Kn.at 0 rfl) rfl)) (by omega) (by omega) rfl (lt rfl) (fun v21 s22 ho23 hf => ?_)
            obtain ⟨p21, c21, rfl⟩ := hf
            refine Run.to_end ?_
            refine Ex.anyL (KnAll.cons (Kn.at 5 rfl) (KnAll.cons (Kn.at 1 rfl) KnAll.nil)) ?_
            refine RunL.pure (i := 7) rfl (by kernel_rfl) (by kernel_rfl) (by kernel_rfl) (by kernel_rfl) (fun _ _ _ h => h) (lt rfl) (KnAll.cons (Kn.at 5 rfl) (KnAll.cons (Kn.at 1 rfl) KnAll.nil)) (fun _ => (Y.idxArr rfl rfl Lives_al62 (by decide) (by decide))) ?_
            refine RunL.one (i := 8) (by kernel_rfl) rfl  ?_ 
            refine Run.store (s := [(b7, .cells #[.slice p21 (nA + 1) c21, .slice pB nB kB] 62 (0, 0))]) rfl rfl Lives_sz61 (i := 5) rfl rfl (le rfl) rfl rfl ?_
            refine Run.to_end ?_
            refine Ex.anyLz rfl ?_
            refine RunL.done (by kernel_rfl) ?_
            refine Ex.end_block ?_
            refine Ex.go ?_
            refine Tr.seq ?_
            refine Tr.quiet Lives_mo (by kernel_rfl) ?_
            have hokA : Con.Sd.ok 37 ⟨bA, (Con.helloC cA (e.n % 8)), mA, p21, (nA + 1), c21, s22, xA ++ [.int .i64 ((Con.helloM cA (e.n % 8)).kind), .int .i64 ((Con.helloM cA (e.n % 8)).life), .int .i64 ((Con.helloM cA (e.n % 8)).seen), .int .i64 ((Con.helloM cA (e.n % 8)).xid), .int .i64 ((Con.helloM cA (e.n % 8)).state), .int .u32 ((Con.helloM cA (e.n % 8)).addr), .int .i64 ((Con.helloM cA (e.n % 8)).bind), .string ((Con.helloM cA (e.n % 8)).client), .int .i64 ((Con.helloM cA (e.n % 8)).pot), .int .i64 ((Con.helloM cA (e.n % 8)).at_), .bool ((Con.helloM cA (e.n % 8)).ok)], lA ++ [Con.helloM cA (e.n % 8)], aA, dA⟩ ⟨bB, cB, mB, pB, nB, kB, qB, xB, lB, aB, dB⟩ (i + 1) := hsA.hello hE ho23 rfl rfl
            have hokB : Con.Sd.ok 37 ⟨bB, cB, mB, pB, nB, kB, qB, xB, lB, aB, dB⟩ ⟨bA, (Con.helloC cA (e.n % 8)), mA, p21, (nA + 1), c21, s22, xA ++ [.int .i64 ((Con.helloM cA (e.n % 8)).kind), .int .i64 ((Con.helloM cA (e.n % 8)).life), .int .i64 ((Con.helloM cA (e.n % 8)).seen), .int .i64 ((Con.helloM cA (e.n % 8)).xid), .int .i64 ((Con.helloM cA (e.n % 8)).state), .int .u32 ((Con.helloM cA (e.n % 8)).addr), .int .i64 ((Con.helloM cA (e.n % 8)).bind), .string ((Con.helloM cA (e.n % 8)).client), .int .i64 ((Con.helloM cA (e.n % 8)).pot), .int .i64 ((Con.helloM cA (e.n % 8)).at_), .bool ((Con.helloM cA (e.n % 8)).ok)], lA ++ [Con.helloM cA (e.n % 8)], aA, dA⟩ (i + 1) := hsB.rest (Int.le_refl _)
            refine RunQ.val (lt rfl) (Y.move rfl) ?_
            refine RunQ.val (lt rfl) (Y.idxArr rfl rfl Lives_al60 (by decide) (by decide)) ?_
            refine RunQ.val (lt rfl) (Y.load rfl Lives_ts46 (Kn.at 7 rfl) rfl) ?_
            refine RunQ.call0 (l := [.tmp 249]) rfl rfl rfl (lt rfl) (other_c (c := (Con.helloC cA (e.n % 8))) (Kn.at 9 rfl)) ?_
            refine RunQ.val (lt rfl) (Y.move rfl) ?_
            refine RunQ.val (lt rfl) (Y.int (r := .int .i64 1) rfl rfl rfl) ?_
            refine RunQ.val (lt rfl) (Y.idxArr rfl rfl Lives_al24 (by decide) (by decide)) ?_
            refine RunQ.val (lt rfl) (Y.load rfl Lives_ts3 (Kn.at 6 rfl) rfl) ?_
            refine RunQ.val (lt rfl) (Y.int rfl rfl rfl) ?_
            refine RunQ.to_end ?_
            refine Ex.go ?_
            refine Tr.cond_f rfl (decide_eq_false (Int.not_lt.2 hokA.known)) ?_
            refine Tr.to_end ?_
            refine Ex.end_block ?_
            refine Ex.go ?_
            refine Tr.region ?_
            refine Run.val (lt rfl) (Y.move rfl) ?_
            refine Run.val (lt rfl) (Y.add rfl rfl (by omega)) ?_
            refine Run.val (lt rfl) (Y.assign rfl) ?_
            refine Run.to_end ?_
            refine Ex.keep [2, 2, 2, 2, 2, 2, 3, 2] ?_
            exact Ex.round ((⟨bA, (Con.helloC cA (e.n % 8)), mA, p21, (nA + 1), c21, s22, xA ++ [.int .i64 ((Con.helloM cA (e.n % 8)).kind), .int .i64 ((Con.helloM cA (e.n % 8)).life), .int .i64 ((Con.helloM cA (e.n % 8)).seen), .int .i64 ((Con.helloM cA (e.n % 8)).xid), .int .i64 ((Con.helloM cA (e.n % 8)).state), .int .u32 ((Con.helloM cA (e.n % 8)).addr), .int .i64 ((Con.helloM cA (e.n % 8)).bind), .string ((Con.helloM cA (e.n % 8)).client), .int .i64 ((Con.helloM cA (e.n % 8)).pot), .int .i64 ((Con.helloM cA (e.n % 8)).at_), .bool ((Con.helloM cA (e.n % 8)).ok)], lA ++ [Con.helloM cA (e.n % 8)], aA, dA⟩ : Con.Sd), (⟨bB, cB, mB, pB, nB, kB, qB, xB, lB, aB, dB⟩ : Con.Sd), (now : Int), i + 1) ⟨hokA, hokB, ⟨by show (0 : Int) ≤ now; omega, by show now ≤ 3 * ((i + 1 : Nat) : Int); omega⟩, by show i + 1 ≤ 250; omega, by show i + 1 ≤ l.length; omega⟩ (by show l.length - (i + 1) < l.length - i; omega) rfl rfl (subB_cons (by first | rfl | exact congrArg (fun z => some (Value.int _ z)) (by omega)) (subB_cons (by first | rfl | exact congrArg (fun z => some (Value.int _ z)) (by omega)) (subB_cons (by first | rfl | exact congrArg (fun z => some (Value.int _ z)) (by omega)) (subB_cons (by first | rfl | exact congrArg (fun z => some (Value.int _ z)) (by omega)) (subB_cons (by first | rfl | exact congrArg (fun z => some (Value.int _ z)) (by omega)) (subB_cons (by first | rfl | exact congrArg (fun z => some (Value.int _ z)) (by omega)) (subB_cons (by first | rfl | exact congrArg (fun z => some (Value.int _ z)) (by omega)) (subB_nil _))))))))
        · have g11 := h11
          try simp only [kb] at g11
          refine Tr.cond_f rfl h11 ?_
          refine Tr.seq ?_
          refine Tr.region ?_
          refine Run.val (lt rfl) (Y.int rfl rfl rfl) ?_
          refine Run.val (lt rfl) (Y.assign rfl) ?_
          refine Run.to_end ?_
          refine Ex.go ?_
          rcases Bool.eq_false_or_eq_true (e.do_ == 1) with h24 | h24
          · have g24 := h24
            try simp only [kb] at g24
            refine Tr.cond_t rfl h24 ?_
            refine Tr.anyL [(b7, .cells #[.slice pA nA kA, .slice pB nB kB] 62 (0, 0)), (b5, .cells #[.pointer (some ⟨bA, 0, none⟩), .pointer (some ⟨bB, 0, none⟩)] 60 (0, 0))] 12 Lives_mo ?_
            refine RunL.pure (i := 0) rfl (by kernel_rfl) (by kernel_rfl) (by kernel_rfl) (by kernel_rfl) (fun _ _ _ h => h) (lt rfl) (KnAll.cons (Kn.at 3 rfl) (KnAll.cons (Kn.at 5 rfl) KnAll.nil)) (fun _ => (Y.move rfl)) ?_
            refine RunL.pure (i := 1) rfl (by kernel_rfl) (by kernel_rfl) (by kernel_rfl) (by kernel_rfl) (fun _ _ _ h => h) (lt rfl) (KnAll.cons (Kn.at 3 rfl) (KnAll.cons (Kn.at 5 rfl) KnAll.nil)) (fun _ => (Y.move rfl)) ?_
            refine RunL.pure (i := 2) rfl (by kernel_rfl) (by kernel_rfl) (by kernel_rfl) (by kernel_rfl) (fun _ _ _ h => h) (lt rfl) (KnAll.cons (Kn.at 3 rfl) (KnAll.cons (Kn.at 5 rfl) KnAll.nil)) (fun _ => (Y.idxArr rfl rfl Lives_al62 (by decide) (by decide))) ?_
            refine RunL.take (i := 3) 0 rfl rfl (by kernel_rfl) (by kernel_rfl) (by kernel_rfl) (by kernel_rfl) (fun _ _ _ h => h) (lt rfl) (KnAll.cons (Kn.at 3 rfl) (KnAll.cons (Kn.at 5 rfl) KnAll.nil)) (fun _ => (Y.load rfl Lives_ts61 Kn.vk1 rfl)) ?_
            refine RunL.pure (i := 4) rfl (by kernel_rfl) (by kernel_rfl) (by kernel_rfl) (by kernel_rfl) (fun _ _ _ h => h) (lt rfl) (KnAll.cons (Kn.at 3 rfl) (KnAll.cons (Kn.at 5 rfl) KnAll.nil)) (fun _ => (Y.move rfl)) ?_
            refine RunL.pure (i := 5) rfl (by kernel_rfl) (by kernel_rfl) (by kernel_rfl) (by kernel_rfl) (fun _ _ _ h => h) (lt rfl) (KnAll.cons (Kn.at 3 rfl) (KnAll.cons (Kn.at 5 rfl) KnAll.nil)) (fun _ => (Y.idxArr rfl rfl Lives_al60 (by decide) (by decide))) ?_
            refine RunL.take (i := 6) 1 rfl rfl (by kernel_rfl) (by kernel_rfl) (by kernel_rfl) (by kernel_rfl) (fun _ _ _ h => h) (lt rfl) (KnAll.cons (Kn.at 3 rfl) (KnAll.cons (Kn.at 5 rfl) KnAll.nil)) (fun _ => (Y.load rfl Lives_ts46 Kn.vk1 rfl)) ?_
            refine RunL.pure (i := 7) rfl (by kernel_rfl) (by kernel_rfl) (by kernel_rfl) (by kernel_rfl) (fun _ _ _ h => h) (lt rfl) (KnAll.cons (Kn.at 3 rfl) (KnAll.cons (Kn.at 5 rfl) KnAll.nil)) (fun _ => (Y.buildS (l := [(0, .const (.int .i64 4))]) Lives_zo37 Lives_pl37 rfl rfl)) ?_
            refine RunL.one (i := 8) (by kernel_rfl) rfl  ?_ 
            refine Run.call0 (l := [.tmp 108, .tmp 109]) rfl rfl rfl (lt rfl) (mark_c (c := cA) (m := (⟨4, 0, 0, 0, 0, 0, 0, ⟨#[]⟩, 0, 0, false⟩ : Msg)) (Kn.at 6 rfl)) ?_
            refine Run.to_end ?_
            refine Ex.anyL (KnAll.cons (Kn.at 3 rfl) (KnAll.cons (Kn.at 5 rfl) KnAll.nil)) ?_
            refine RunL.one (i := 9) (by kernel_rfl) rfl  ?_ 
            refine Run.buildSlice (l := [(0, .tmp 110)]) (r := [.int .i64 4, .int .i64 cA.mine, .int .i64 cA.known, .int .i64 0, .int .i64 0, .int .u32 0, .int .i64 0, .string ⟨#[]⟩, .int .i64 0, .int .i64 0, .bool false]) Lives_es61 Lives_zo37 rfl (by decide) rfl rfl (by decide) (lt rfl) (fun b25 => ?_)
            refine Run.to_end ?_
            refine Ex.anyL (KnAll.cons (Kn.at 4 rfl) (KnAll.cons (Kn.at 6 rfl) KnAll.nil)) ?_
            refine RunL.one (i := 10) (by kernel_rfl) rfl  ?_ 
            refine Run.append (n := nA) (m := 1) (xs := xA) (ys := [.int .i64 4, .int .i64 cA.mine, .int .i64 cA.known, .int .i64 0, .int .i64 0, .int .u32 0, .int .i64 0, .string ⟨#[]⟩, .int .i64 0, .int .i64 0, .bool false]) rfl rfl Lives_es61 Lives_zi37 (by decide) (j := 1) rfl ownA (Src.of_rd Lives_es61 (Rd.one (Kn.at 0 rfl) rfl)) (by omega) (by omega) rfl (lt rfl) (fun v26 s27 ho28 hf => ?_)
            obtain ⟨p26, c26, rfl⟩ := hf
            refine Run.to_end ?_
            refine Ex.anyL (KnAll.cons (Kn.at 4 rfl) (KnAll.cons (Kn.at 6 rfl) KnAll.nil)) ?_
            refine RunL.pure (i := 11) rfl (by kernel_rfl) (by kernel_rfl) (by kernel_rfl) (by kernel_rfl) (fun _ _ _ h => h) (lt rfl) (KnAll.cons (Kn.at 4 rfl) (KnAll.cons (Kn.at 6 rfl) KnAll.nil)) (fun _ => (Y.idxArr rfl rfl Lives_al62 (by decide) (by decide))) ?_
            refine RunL.one (i := 12) (by kernel_rfl) rfl  ?_ 
            refine Run.store (s := [(b7, .cells #[.slice p26 (nA + 1) c26, .slice pB nB kB] 62 (0, 0))]) rfl rfl Lives_sz61 (i := 4) rfl rfl (le rfl) rfl rfl ?_
            refine Run.to_end ?_
            refine Ex.anyLz rfl ?_
            refine RunL.done (by kernel_rfl) ?_
            refine Ex.end_block ?_
            refine Ex.go ?_
            refine Tr.seq ?_
            refine Tr.quiet Lives_mo (by kernel_rfl) ?_
            have hokA : Con.Sd.ok 37 ⟨bA, cA, mA, p26, (nA + 1), c26, s27, xA ++ [.int .i64 4, .int .i64 cA.mine, .int .i64 cA.known, .int .i64 0, .int .i64 0, .int .u32 0, .int .i64 0, .string ⟨#[]⟩, .int .i64 0, .int .i64 0, .bool false], lA ++ [Con.mark cA ⟨4, 0, 0, 0, 0, 0, 0, ⟨#[]⟩, 0, 0, false⟩], aA, dA⟩ ⟨bB, cB, mB, pB, nB, kB, qB, xB, lB, aB, dB⟩ (i + 1) := hsA.mark ⟨4, 0, 0, 0, 0, 0, 0, ⟨#[]⟩, 0, 0, false⟩ ho28 rfl rfl
            have hokB : Con.Sd.ok 37 ⟨bB, cB, mB, pB, nB, kB, qB, xB, lB, aB, dB⟩ ⟨bA, cA, mA, p26, (nA + 1), c26, s27, xA ++ [.int .i64 4, .int .i64 cA.mine, .int .i64 cA.known, .int .i64 0, .int .i64 0, .int .u32 0, .int .i64 0, .string ⟨#[]⟩, .int .i64 0, .int .i64 0, .bool false], lA ++ [Con.mark cA ⟨4, 0, 0, 0, 0, 0, 0, ⟨#[]⟩, 0, 0, false⟩], aA, dA⟩ (i + 1) := hsB.rest (Int.le_refl _)
            refine RunQ.val (lt rfl) (Y.move rfl) ?_
            refine RunQ.val (lt rfl) (Y.idxArr rfl rfl Lives_al60 (by decide) (by decide)) ?_
            refine RunQ.val (lt rfl) (Y.load rfl Lives_ts46 (Kn.at 6 rfl) rfl) ?_
            refine RunQ.call0 (l := [.tmp 249]) rfl rfl rfl (lt rfl) (other_c (c := cA) (Kn.at 7 rfl)) ?_
            refine RunQ.val (lt rfl) (Y.move rfl) ?_
            refine RunQ.val (lt rfl) (Y.int (r := .int .i64 1) rfl rfl rfl) ?_
            refine RunQ.val (lt rfl) (Y.idxArr rfl rfl Lives_al24 (by decide) (by decide)) ?_
            refine RunQ.val (lt rfl) (Y.load rfl Lives_ts3 (Kn.at 5 rfl) rfl) ?_
            refine RunQ.val (lt rfl) (Y.int rfl rfl rfl) ?_
            refine RunQ.to_end ?_
            refine Ex.go ?_
            refine Tr.cond_f rfl (decide_eq_false (Int.not_lt.2 hokA.known)) ?_
            refine Tr.to_end ?_
            refine Ex.end_block ?_
            refine Ex.go ?_
            refine Tr.region ?_
            refine Run.val (lt rfl) (Y.move rfl) ?_
            refine Run.val (lt rfl) (Y.add rfl rfl (by omega)) ?_
            refine Run.val (lt rfl) (Y.assign rfl) ?_
            refine Run.to_end ?_
            refine Ex.keep [1, 1, 1, 1, 1, 1, 1, 1] ?_
            exact Ex.round ((⟨bA, cA, mA, p26, (nA + 1), c26, s27, xA ++ [.int .i64 4, .int .i64 cA.mine, .int .i64 cA.known, .int .i64 0, .int .i64 0, .int .u32 0, .int .i64 0, .string ⟨#[]⟩, .int .i64 0, .int .i64 0, .bool false], lA ++ [Con.mark cA ⟨4, 0, 0, 0, 0, 0, 0, ⟨#[]⟩, 0, 0, false⟩], aA, dA⟩ : Con.Sd), (⟨bB, cB, mB, pB, nB, kB, qB, xB, lB, aB, dB⟩ : Con.Sd), (now : Int), i + 1) ⟨hokA, hokB, ⟨by show (0 : Int) ≤ now; omega, by show now ≤ 3 * ((i + 1 : Nat) : Int); omega⟩, by show i + 1 ≤ 250; omega, by show i + 1 ≤ l.length; omega⟩ (by show l.length - (i + 1) < l.length - i; omega) rfl rfl (subB_cons (by first | rfl | exact congrArg (fun z => some (Value.int _ z)) (by omega)) (subB_cons (by first | rfl | exact congrArg (fun z => some (Value.int _ z)) (by omega)) (subB_cons (by first | rfl | exact congrArg (fun z => some (Value.int _ z)) (by omega)) (subB_cons (by first | rfl | exact congrArg (fun z => some (Value.int _ z)) (by omega)) (subB_cons (by first | rfl | exact congrArg (fun z => some (Value.int _ z)) (by omega)) (subB_cons (by first | rfl | exact congrArg (fun z => some (Value.int _ z)) (by omega)) (subB_cons (by first | rfl | exact congrArg (fun z => some (Value.int _ z)) (by omega)) (subB_nil _))))))))
          · have g24 := h24
            try simp only [kb] at g24
            refine Tr.cond_f rfl h24 ?_
            refine Tr.seq ?_
            refine Tr.region ?_
            refine Run.val (lt rfl) (Y.int rfl rfl rfl) ?_
            refine Run.val (lt rfl) (Y.assign rfl) ?_
            refine Run.to_end ?_
            refine Ex.go ?_
            rcases Bool.eq_false_or_eq_true (e.do_ == 2) with h29 | h29
            · have g29 := h29
              try simp only [kb] at g29
              refine Tr.cond_t rfl h29 ?_
              refine Tr.seq ?_
              refine Tr.seq ?_
              refine Tr.region ?_
              refine Run.val (lt rfl) (Y.move rfl) ?_
              refine Run.val (lt rfl) (Y.int (r := .int .i64 1) rfl rfl rfl) ?_
              refine Run.val (lt rfl) (Y.idxArr rfl rfl Lives_al62 (by decide) (by decide)) ?_
              refine Run.val (lt rfl) (Y.load rfl Lives_ts61 (Kn.at 3 rfl) rfl) ?_
              refine Run.val (lt rfl) (Y.lenSl rfl Lives_es61) ?_
              refine Run.val (lt rfl) (Y.int rfl rfl rfl) ?_
              refine Run.to_end ?_
              refine Ex.go ?_
              rcases Bool.eq_false_or_eq_true (((nB : Nat) : Int) == 0) with h30 | h30
              · have g30 := h30
                try simp only [kb] at g30
                refine Tr.cond_t rfl h30 ?_
                refine Tr.to_exit ?_
                refine Ex.exit_then ?_
                refine Ex.exit_out rfl ?_
                refine Ex.exit_then ?_
                refine Ex.exit_in ?_
                refine Ex.go ?_
                refine Tr.region ?_
                refine Run.val (lt rfl) (Y.move rfl) ?_
                refine Run.val (lt rfl) (Y.add rfl rfl (by omega)) ?_
                refine Run.val (lt rfl) (Y.assign rfl) ?_
                refine Run.to_end ?_
                have hokA : Con.Sd.ok 37 ⟨bA, cA, mA, pA, nA, kA, qA, xA, lA, aA, dA⟩ ⟨bB, cB, mB, pB, nB, kB, qB, xB, lB, aB, dB⟩ (i + 1) := hsA.rest (Int.le_refl _)
                have hokB : Con.Sd.ok 37 ⟨bB, cB, mB, pB, nB, kB, qB, xB, lB, aB, dB⟩ ⟨bA, cA, mA, pA, nA, kA, qA, xA, lA, aA, dA⟩ (i + 1) := hsB.rest (Int.le_refl _)
                refine Ex.keep [0, 0, 0, 0, 0, 0, 0, 0] ?_
                exact Ex.round ((⟨bA, cA, mA, pA, nA, kA, qA, xA, lA, aA, dA⟩ : Con.Sd), (⟨bB, cB, mB, pB, nB, kB, qB, xB, lB, aB, dB⟩ : Con.Sd), (now : Int), i + 1) ⟨hokA, hokB, ⟨by show (0 : Int) ≤ now; omega, by show now ≤ 3 * ((i + 1 : Nat) : Int); omega⟩, by show i + 1 ≤ 250; omega, by show i + 1 ≤ l.length; omega⟩ (by show l.length - (i + 1) < l.length - i; omega) rfl rfl (subB_cons (by first | rfl | exact congrArg (fun z => some (Value.int _ z)) (by omega)) (subB_cons (by first | rfl | exact congrArg (fun z => some (Value.int _ z)) (by omega)) (subB_cons (by first | rfl | exact congrArg (fun z => some (Value.int _ z)) (by omega)) (subB_cons (by first | rfl | exact congrArg (fun z => some (Value.int _ z)) (by omega)) (subB_cons (by first | rfl | exact congrArg (fun z => some (Value.int _ z)) (by omega)) (subB_cons (by first | rfl | exact congrArg (fun z => some (Value.int _ z)) (by omega)) (subB_cons (by first | rfl | exact congrArg (fun z => some (Value.int _ z)) (by omega)) (subB_nil _))))))))
              · have g30 := h30
                try simp only [kb] at g30
                obtain ⟨bq, cap, cur, hv2, hq, _, _, _, hcs2⟩ : ∃ b cap cur, Value.slice pB nB kB = .slice (some ⟨b, 0, none⟩) nB cap ∧ qB = [(b, .cells cur 37 (0, 0))] ∧ nB ≤ cap ∧ cap ≤ maxLen ∧ cur.size = cap * 11 ∧ ∀ j, j < nB * 11 → cur[j]? = xB[j]? := by
                  rcases ownB.2 with ⟨_, h, _⟩ | h
                  · exact absurd h (by omega)
                  · exact h
                obtain ⟨rfl, rfl⟩ : pB = some ⟨bq, 0, none⟩ ∧ kB = cap := by cases hv2; exact ⟨rfl, rfl⟩
                subst hq
                obtain ⟨j, hj, hjl⟩ := pick_some (n := nB) (a := e.n % 1024) (by omega) (by omega)
                have hxB : xB = (lB.map Msg.rowc).flatten := hsB.flat
                have hlB : nB = lB.length := hsB.len
                have hrowq := row_at (f := Msg.rowc) (z := 11) (off := 0) (n := nB) Msg.rowc_len (cs := cur) (l := lB) (fun j hj => by rw [Nat.zero_add, hcs2 j hj, hxB]) (i := j) (by omega) (by omega) Msg.zero
                obtain ⟨m, hm, hmem⟩ : ∃ m, lB.getD j Msg.zero = m ∧ m ∈ lB := ⟨_, rfl, getD_mem (by omega) _⟩
                rw [hm] at hrowq
                have hml : m.life ≤ mB := hsB.life m hmem
                refine Tr.cond_f rfl h30 ?_
                refine Tr.to_end ?_
                refine Ex.go ?_
                refine Tr.seq ?_
                refine Tr.anyD [(b7, .cells #[.slice pA nA kA, .slice (some ⟨bq, 0, none⟩) nB kB] 62 (0, 0)), (b, .cells cs et fz), (bq, .cells cur 37 (0, 0))] Lives_mo ?_
                refine RunD.pure (i := 0) rfl (by kernel_rfl) (by kernel_rfl) (by kernel_rfl) (fun _ _ _ h => h) (lt rfl) (KnAll.cons (Kn.at 3 rfl) (KnAll.cons hk.of_nil (KnAll.cons (Kn.at 1 rfl) KnAll.nil))) (fun _ => (Y.move rfl)) ?_
                refine RunD.pure (i := 1) rfl (by kernel_rfl) (by kernel_rfl) (by kernel_rfl) (fun _ _ _ h => h) (lt rfl) (KnAll.cons (Kn.at 3 rfl) (KnAll.cons hk.of_nil (KnAll.cons (Kn.at 1 rfl) KnAll.nil))) (fun _ => (Y.int (r := .int .i64 1) rfl rfl rfl)) ?_
                refine RunD.pure (i := 2) rfl (by kernel_rfl) (by kernel_rfl) (by kernel_rfl) (fun _ _ _ h => h) (lt rfl) (KnAll.cons (Kn.at 3 rfl) (KnAll.cons hk.of_nil (KnAll.cons (Kn.at 1 rfl) KnAll.nil))) (fun _ => (Y.idxArr rfl rfl Lives_al62 (by decide) (by decide))) ?_
                refine RunD.take (i := 3) 0 rfl rfl (by kernel_rfl) (by kernel_rfl) (by kernel_rfl) (fun _ _ _ h => h) (lt rfl) (KnAll.cons (Kn.at 3 rfl) (KnAll.cons hk.of_nil (KnAll.cons (Kn.at 1 rfl) KnAll.nil))) (fun _ => (Y.load rfl Lives_ts61 Kn.vk1 rfl)) ?_
                refine RunD.pure (i := 4) rfl (by kernel_rfl) (by kernel_rfl) (by kernel_rfl) (fun _ _ _ h => h) (lt rfl) (KnAll.cons (Kn.at 3 rfl) (KnAll.cons hk.of_nil (KnAll.cons (Kn.at 1 rfl) KnAll.nil))) (fun _ => (Y.move rfl)) ?_
                refine RunD.pure (i := 5) rfl (by kernel_rfl) (by kernel_rfl) (by kernel_rfl) (fun _ _ _ h => h) (lt rfl) (KnAll.cons (Kn.at 3 rfl) (KnAll.cons hk.of_nil (KnAll.cons (Kn.at 1 rfl) KnAll.nil))) (fun _ => (Y.move rfl)) ?_
                refine RunD.pure (i := 6) rfl (by kernel_rfl) (by kernel_rfl) (by kernel_rfl) (fun _ _ _ h => h) (lt rfl) (KnAll.cons (Kn.at 3 rfl) (KnAll.cons hk.of_nil (KnAll.cons (Kn.at 1 rfl) KnAll.nil))) (fun _ => (Y.idxAddr rfl rfl Lives_es59 (by omega) (by omega))) ?_
                refine RunD.pure (i := 7) rfl (by kernel_rfl) (by kernel_rfl) (by kernel_rfl) (fun _ _ _ h => h) (lt rfl) (KnAll.cons (Kn.at 3 rfl) (KnAll.cons hk.of_nil (KnAll.cons (Kn.at 1 rfl) KnAll.nil))) (fun _ => (Y.fieldAddr rfl Lives_fo65_2)) ?_
                refine RunD.take (i := 8) 1 rfl rfl (by kernel_rfl) (by kernel_rfl) (by kernel_rfl) (fun _ _ _ h => h) (lt rfl) (KnAll.cons (Kn.at 3 rfl) (KnAll.cons hk.of_nil (KnAll.cons (Kn.at 1 rfl) KnAll.nil))) (fun _ => (Y.load rfl Lives_ts3 Kn.vk1 (hrow 2 (by decide)))) ?_
                refine RunD.pure (i := 9) rfl (by kernel_rfl) (by kernel_rfl) (by kernel_rfl) (fun _ _ _ h => h) (lt rfl) (KnAll.cons (Kn.at 3 rfl) (KnAll.cons hk.of_nil (KnAll.cons (Kn.at 1 rfl) KnAll.nil))) (fun _ => (Y.int (r := .int .i64 (e.n % 1024)) rfl rfl (by simp only [intRes]; rw [and_low e.n 1023 1024 10 (by decide) rfl rfl]))) ?_
                refine RunD.pure (i := 10) rfl (by kernel_rfl) (by kernel_rfl) (by kernel_rfl) (fun _ _ _ h => h) (lt rfl) (KnAll.cons (Kn.at 3 rfl) (KnAll.cons hk.of_nil (KnAll.cons (Kn.at 1 rfl) KnAll.nil))) (fun _ => (Y.move rfl)) ?_
                refine RunD.pure (i := 11) rfl (by kernel_rfl) (by kernel_rfl) (by kernel_rfl) (fun _ _ _ h => h) (lt rfl) (KnAll.cons (Kn.at 3 rfl) (KnAll.cons hk.of_nil (KnAll.cons (Kn.at 1 rfl) KnAll.nil))) (fun _ => (Y.int (r := .int .i64 1) rfl rfl rfl)) ?_
                refine RunD.pure (i := 12) rfl (by kernel_rfl) (by kernel_rfl) (by kernel_rfl) (fun _ _ _ h => h) (lt rfl) (KnAll.cons (Kn.at 3 rfl) (KnAll.cons hk.of_nil (KnAll.cons (Kn.at 1 rfl) KnAll.nil))) (fun _ => (Y.idxArr rfl rfl Lives_al62 (by decide) (by decide))) ?_
                refine RunD.take (i := 13) 0 rfl rfl (by kernel_rfl) (by kernel_rfl) (by kernel_rfl) (fun _ _ _ h => h) (lt rfl) (KnAll.cons (Kn.at 3 rfl) (KnAll.cons hk.of_nil (KnAll.cons (Kn.at 1 rfl) KnAll.nil))) (fun _ => (Y.load rfl Lives_ts61 Kn.vk1 rfl)) ?_
                refine RunD.pure (i := 14) rfl (by kernel_rfl) (by kernel_rfl) (by kernel_rfl) (fun _ _ _ h => h) (lt rfl) (KnAll.cons (Kn.at 3 rfl) (KnAll.cons hk.of_nil (KnAll.cons (Kn.at 1 rfl) KnAll.nil))) (fun _ => (Y.lenSl rfl Lives_es61)) ?_
                refine RunD.pure (i := 15) rfl (by kernel_rfl) (by kernel_rfl) (by kernel_rfl) (fun _ _ _ h => h) (lt rfl) (KnAll.cons (Kn.at 3 rfl) (KnAll.cons hk.of_nil (KnAll.cons (Kn.at 1 rfl) KnAll.nil))) (fun _ => (Y.rem ((j : Int)) rfl rfl (by omega) hj)) ?_
                refine RunD.pure (i := 16) rfl (by kernel_rfl) (by kernel_rfl) (by kernel_rfl) (fun _ _ _ h => h) (lt rfl) (KnAll.cons (Kn.at 3 rfl) (KnAll.cons hk.of_nil (KnAll.cons (Kn.at 1 rfl) KnAll.nil))) (fun _ => (Y.idxAddr rfl rfl Lives_es61 (by omega) (by omega))) ?_
                refine RunD.take (i := 17) 2 rfl rfl (by kernel_rfl) (by kernel_rfl) (by kernel_rfl) (fun _ _ _ h => h) (lt rfl) (KnAll.cons (Kn.at 3 rfl) (KnAll.cons hk.of_nil (KnAll.cons (Kn.at 1 rfl) KnAll.nil))) (fun _ => (Y.loadAgg rfl Lives_ag37 Kn.vk1 (cellsAt_of (Msg.rowc m) _ hrowq))) ?_
                refine RunD.one (i := 18) (by kernel_rfl) rfl  ?_ 
                refine Run.alloc Lives_zo37 (lt rfl) (fun b31 => ?_)
                refine Run.to_end ?_
                refine Ex.anyD (KnAll.cons (Kn.at 4 rfl) (KnAll.cons hk.of_nil (KnAll.cons (Kn.at 2 rfl) KnAll.nil))) ?_
                refine RunD.one (i := 19) (by kernel_rfl) rfl  ?_ 
                refine Run.store (s := [(b31, .cells #[.int .i64 m.kind, .int .i64 m.life, .int .i64 m.seen, .int .i64 m.xid, .int .i64 m.state, .int .u32 m.addr, .int .i64 m.bind, .string m.client, .int .i64 m.pot, .int .i64 m.at_, .bool m.ok] 37 (0, 0))]) rfl rfl Lives_sz37 (i := 0) rfl rfl (le rfl) rfl rfl ?_
                refine Run.to_end ?_
                refine Ex.anyD (KnAll.cons (Kn.at 4 rfl) (KnAll.cons hk.of_nil (KnAll.cons (Kn.at 2 rfl) KnAll.nil))) ?_
                refine RunD.done (by kernel_rfl) ?_
                refine Ex.go ?_
                refine Tr.seq ?_
                refine Tr.anyD [(b5, .cells #[.pointer (some ⟨bA, 0, none⟩), .pointer (some ⟨bB, 0, none⟩)] 60 (0, 0)), (b31, .cells #[.int .i64 m.kind, .int .i64 m.life, .int .i64 m.seen, .int .i64 m.xid, .int .i64 m.state, .int .u32 m.addr, .int .i64 m.bind, .string m.client, .int .i64 m.pot, .int .i64 m.at_, .bool m.ok] 37 (0, 0))] Lives_mo ?_
                refine RunD.pure (i := 0) rfl (by kernel_rfl) (by kernel_rfl) (by kernel_rfl) (fun _ _ _ h => h) (lt rfl) (KnAll.cons (Kn.at 6 rfl) (KnAll.cons (Kn.at 0 rfl) KnAll.nil)) (fun _ => (Y.move rfl)) ?_
                refine RunD.pure (i := 1) rfl (by kernel_rfl) (by kernel_rfl) (by kernel_rfl) (fun _ _ _ h => h) (lt rfl) (KnAll.cons (Kn.at 6 rfl) (KnAll.cons (Kn.at 0 rfl) KnAll.nil)) (fun _ => (Y.idxArr rfl rfl Lives_al60 (by decide) (by decide))) ?_
                refine RunD.take (i := 2) 0 rfl rfl (by kernel_rfl) (by kernel_rfl) (by kernel_rfl) (fun _ _ _ h => h) (lt rfl) (KnAll.cons (Kn.at 6 rfl) (KnAll.cons (Kn.at 0 rfl) KnAll.nil)) (fun _ => (Y.load rfl Lives_ts46 Kn.vk1 rfl)) ?_
                refine RunD.take (i := 3) 1 rfl rfl (by kernel_rfl) (by kernel_rfl) (by kernel_rfl) (fun _ _ _ h => h) (lt rfl) (KnAll.cons (Kn.at 6 rfl) (KnAll.cons (Kn.at 0 rfl) KnAll.nil)) (fun _ => (Y.loadAgg rfl Lives_ag37 Kn.vk1 rfl)) ?_
                refine RunD.pure (i := 4) rfl (by kernel_rfl) (by kernel_rfl) (by kernel_rfl) (fun _ _ _ h => h) (lt rfl) (KnAll.cons (Kn.at 6 rfl) (KnAll.cons (Kn.at 0 rfl) KnAll.nil)) (fun _ => (Y.move rfl)) ?_
                refine RunD.one (i := 5) (by kernel_rfl) rfl  ?_ 
                refine Run.call [7] (l := [.tmp 143, .tmp 144, .tmp 145]) rfl rfl rfl (lt rfl) (take19_c (c := cA) (m := m) (now := now) hsA.inv) (fun v32 V2 H2 _ hR => ?_)
                obtain ⟨hV, rfl, rfl⟩ := hR; replace hV := hV.symm; subst hV
                refine Run.to_end ?_
                refine Ex.anyD (KnAll.cons (Kn.at 6 rfl) (KnAll.cons (Kn.at 0 rfl) KnAll.nil)) ?_
                refine RunD.pure (i := 6) rfl (by kernel_rfl) (by kernel_rfl) (by kernel_rfl) (fun _ _ _ h => h) (lt rfl) (KnAll.cons (Kn.at 6 rfl) (KnAll.cons (Kn.at 0 rfl) KnAll.nil)) (fun _ => (Y.move rfl)) ?_
                refine RunD.pure (i := 7) rfl (by kernel_rfl) (by kernel_rfl) (by kernel_rfl) (fun _ _ _ h => h) (lt rfl) (KnAll.cons (Kn.at 6 rfl) (KnAll.cons (Kn.at 0 rfl) KnAll.nil)) (fun _ => (Y.extract rfl rfl)) ?_
                refine RunD.pure (i := 8) rfl (by kernel_rfl) (by kernel_rfl) (by kernel_rfl) (fun _ _ _ h => h) (lt rfl) (KnAll.cons (Kn.at 6 rfl) (KnAll.cons (Kn.at 0 rfl) KnAll.nil)) (fun _ => (Y.extract rfl rfl)) ?_
                refine RunD.pure (i := 9) rfl (by kernel_rfl) (by kernel_rfl) (by kernel_rfl) (fun _ _ _ h => h) (lt rfl) (KnAll.cons (Kn.at 6 rfl) (KnAll.cons (Kn.at 0 rfl) KnAll.nil)) (fun _ => (Y.assign rfl)) ?_
                refine RunD.pure (i := 10) rfl (by kernel_rfl) (by kernel_rfl) (by kernel_rfl) (fun _ _ _ h => h) (lt rfl) (KnAll.cons (Kn.at 6 rfl) (KnAll.cons (Kn.at 0 rfl) KnAll.nil)) (fun _ => (Y.assign rfl)) ?_
                refine RunD.done (by kernel_rfl) ?_
                refine Ex.go ?_
                refine Tr.seq ?_
                refine Tr.seq ?_
                refine Tr.region ?_
                refine Run.val (lt rfl) (Y.move rfl) ?_
                refine Run.val (lt rfl) (Y.int rfl rfl rfl) ?_
                refine Run.to_end ?_
                refine Ex.go ?_
                rcases Bool.eq_false_or_eq_true ((Con.takeE cA m now) != 0) with h33 | h33
                · have g33 := h33
                  try simp only [kb] at g33
                  have hEb : Con.takeE cA m now ≠ 0 := by simpa using h33
                  refine Tr.cond_t rfl h33 ?_
                  refine Tr.to_exit ?_
                  refine Ex.exit_then ?_
                  refine Ex.exit_out rfl ?_
                  refine Ex.exit_then ?_
                  refine Ex.exit_in ?_
                  refine Ex.go ?_
                  refine Tr.region ?_
                  refine Run.val (lt rfl) (Y.move rfl) ?_
                  refine Run.val (lt rfl) (Y.add rfl rfl (by omega)) ?_
                  refine Run.val (lt rfl) (Y.assign rfl) ?_
                  refine Run.to_end ?_
                  have hokA : Con.Sd.ok 37 ⟨bA, (Con.takeC cA m now), mA, pA, nA, kA, qA, xA, lA, aA, dA⟩ ⟨bB, cB, mB, (some ⟨bq, 0, none⟩), nB, kB, [(bq, .cells cur 37 (0, 0))], xB, lB, aB, dB⟩ (i + 1) := hsA.takeBad hEb
                  have hokB : Con.Sd.ok 37 ⟨bB, cB, mB, (some ⟨bq, 0, none⟩), nB, kB, [(bq, .cells cur 37 (0, 0))], xB, lB, aB, dB⟩ ⟨bA, (Con.takeC cA m now), mA, pA, nA, kA, qA, xA, lA, aA, dA⟩ (i + 1) := hsB.rest (Int.le_refl _)
                  refine Ex.keep [1, 1, 1, 1, 1, 1, 2, 1] ?_
                  exact Ex.round ((⟨bA, (Con.takeC cA m now), mA, pA, nA, kA, qA, xA, lA, aA, dA⟩ : Con.Sd), (⟨bB, cB, mB, (some ⟨bq, 0, none⟩), nB, kB, [(bq, .cells cur 37 (0, 0))], xB, lB, aB, dB⟩ : Con.Sd), (now : Int), i + 1) ⟨hokA, hokB, ⟨by show (0 : Int) ≤ now; omega, by show now ≤ 3 * ((i + 1 : Nat) : Int); omega⟩, by show i + 1 ≤ 250; omega, by show i + 1 ≤ l.length; omega⟩ (by show l.length - (i + 1) < l.length - i; omega) rfl rfl (subB_cons (by first | rfl | exact congrArg (fun z => some (Value.int _ z)) (by omega)) (subB_cons (by first | rfl | exact congrArg (fun z => some (Value.int _ z)) (by omega)) (subB_cons (by first | rfl | exact congrArg (fun z => some (Value.int _ z)) (by omega)) (subB_cons (by first | rfl | exact congrArg (fun z => some (Value.int _ z)) (by omega)) (subB_cons (by first | rfl | exact congrArg (fun z => some (Value.int _ z)) (by omega)) (subB_cons (by first | rfl | exact congrArg (fun z => some (Value.int _ z)) (by omega)) (subB_cons (by first | rfl | exact congrArg (fun z => some (Value.int _ z)) (by omega)) (subB_nil _))))))))
                · have g33 := h33
                  try simp only [kb] at g33
                  have hE : Con.takeE cA m now = 0 := by simpa using h33
                  refine Tr.cond_f rfl h33 ?_
                  refine Tr.to_end ?_
                  refine Ex.go ?_
                  refine Tr.seq ?_
                  refine Tr.seq ?_
                  refine Tr.quiet Lives_mo (by kernel_rfl) ?_
                  refine RunQ.val (lt rfl) (Y.fieldAddr rfl Lives_fo37_0) ?_
                  refine RunQ.val (lt rfl) (Y.load rfl Lives_ts3 (Kn.at 0 rfl) rfl) ?_
                  refine RunQ.val (lt rfl) (Y.int rfl rfl rfl) ?_
                  refine RunQ.val (lt rfl) (Y.move rfl) ?_
                  rcases Bool.eq_false_or_eq_true (m.kind != 1) with h34 | h34
                  · have g34 := h34
                    try simp only [kb] at g34
                    have hkd : ¬ m.kind = 1 := by simpa using h34
                    have hse : m.seen = mA ∧ m.life = (Con.takeC cA m now).known := hsA.see hE hkd
                    refine RunQ.on rfl rfl rfl h34 ?_
                    refine RunQ.val (lt rfl) (Y.fieldAddr rfl Lives_fo37_2) ?_
                    refine RunQ.on rfl rfl rfl h34 ?_
                    refine RunQ.val (lt rfl) (Y.load rfl Lives_ts3 (Kn.at 0 rfl) rfl) ?_
                    refine RunQ.on rfl rfl rfl h34 ?_
                    refine RunQ.val (lt rfl) (Y.move rfl) ?_
                    refine RunQ.on rfl rfl rfl h34 ?_
                    refine RunQ.val (lt rfl) (Y.idxArr rfl rfl Lives_al24 (by decide) (by decide)) ?_
                    refine RunQ.on rfl rfl rfl h34 ?_
                    refine RunQ.val (lt rfl) (Y.load rfl Lives_ts3 (Kn.at 5 rfl) rfl) ?_
                    refine RunQ.on rfl rfl rfl h34 ?_
                    refine RunQ.val (lt rfl) (Y.int rfl rfl rfl) ?_
                    refine RunQ.on rfl rfl rfl h34 ?_
                    refine RunQ.val (lt rfl) (Y.move rfl) ?_
                    refine RunQ.on rfl rfl rfl (bne_eq_false_iff_eq.2 hse.1) ?_
                    refine RunQ.val (lt rfl) (Y.fieldAddr rfl Lives_fo37_1) ?_
                    refine RunQ.on rfl rfl rfl (bne_eq_false_iff_eq.2 hse.1) ?_
                    refine RunQ.val (lt rfl) (Y.load rfl Lives_ts3 (Kn.at 0 rfl) rfl) ?_
                    refine RunQ.on rfl rfl rfl (bne_eq_false_iff_eq.2 hse.1) ?_
                    refine RunQ.val (lt rfl) (Y.move rfl) ?_
                    refine RunQ.on rfl rfl rfl (bne_eq_false_iff_eq.2 hse.1) ?_
                    refine RunQ.val (lt rfl) (Y.idxArr rfl rfl Lives_al60 (by decide) (by decide)) ?_
                    refine RunQ.on rfl rfl rfl (bne_eq_false_iff_eq.2 hse.1) ?_
                    refine RunQ.val (lt rfl) (Y.load rfl Lives_ts46 (Kn.at 6 rfl) rfl) ?_
                    refine RunQ.on rfl rfl rfl (bne_eq_false_iff_eq.2 hse.1) ?_
                    refine RunQ.call0 (l := [.tmp 166]) rfl rfl rfl (lt rfl) (other_c (c := (Con.takeC cA m now)) (Kn.at 8 rfl)) ?_
                    refine RunQ.on rfl rfl rfl (bne_eq_false_iff_eq.2 hse.1) ?_
                    refine RunQ.val (lt rfl) (Y.int rfl rfl rfl) ?_
                    refine RunQ.on rfl rfl rfl h34 ?_
                    refine RunQ.val (lt rfl) (Y.pick_f rfl (bne_eq_false_iff_eq.2 hse.1) rfl) ?_
                    refine RunQ.val (lt rfl) (Y.pick_t rfl h34 rfl) ?_
                    refine RunQ.to_end ?_
                    refine Ex.go ?_
                    refine Tr.cond_f rfl (bne_eq_false_iff_eq.2 hse.2) ?_
                    refine Tr.to_end ?_
                    refine Ex.go ?_
                    refine Tr.seq ?_
                    refine Tr.region ?_
                    refine Run.val (lt rfl) (Y.fieldAddr rfl Lives_fo37_0) ?_
                    refine Run.val (lt rfl) (Y.load rfl Lives_ts3 (Kn.at 0 rfl) rfl) ?_
                    refine Run.val (lt rfl) (Y.int rfl rfl rfl) ?_
                    refine Run.to_end ?_
                    refine Ex.go ?_
                    refine Tr.cond_f rfl (beq_eq_false_iff_ne.2 hkd) ?_
                    refine Tr.to_end ?_
                    refine Ex.end_block ?_
                    refine Ex.go ?_
                    refine Tr.seq ?_
                    refine Tr.quiet Lives_mo (by kernel_rfl) ?_
                    have hokA : Con.Sd.ok 37 ⟨bA, (Con.takeC cA m now), mA, pA, nA, kA, qA, xA, lA, aA, dA⟩ ⟨bB, cB, mB, (some ⟨bq, 0, none⟩), nB, kB, [(bq, .cells cur 37 (0, 0))], xB, lB, aB, dB⟩ (i + 1) := hsA.takeSome hE hkd
                    have hokB : Con.Sd.ok 37 ⟨bB, cB, mB, (some ⟨bq, 0, none⟩), nB, kB, [(bq, .cells cur 37 (0, 0))], xB, lB, aB, dB⟩ ⟨bA, (Con.takeC cA m now), mA, pA, nA, kA, qA, xA, lA, aA, dA⟩ (i + 1) := hsB.rest (Int.le_refl _)
                    refine RunQ.val (lt rfl) (Y.move rfl) ?_
                    refine RunQ.val (lt rfl) (Y.idxArr rfl rfl Lives_al60 (by decide) (by decide)) ?_
                    refine RunQ.val (lt rfl) (Y.load rfl Lives_ts46 (Kn.at 6 rfl) rfl) ?_
                    refine RunQ.call0 (l := [.tmp 249]) rfl rfl rfl (lt rfl) (other_c (c := (Con.takeC cA m now)) (Kn.at 8 rfl)) ?_
                    refine RunQ.val (lt rfl) (Y.move rfl) ?_
                    refine RunQ.val (lt rfl) (Y.int (r := .int .i64 1) rfl rfl rfl) ?_
                    refine RunQ.val (lt rfl) (Y.idxArr rfl rfl Lives_al24 (by decide) (by decide)) ?_
                    refine RunQ.val (lt rfl) (Y.load rfl Lives_ts3 (Kn.at 5 rfl) rfl) ?_
                    refine RunQ.val (lt rfl) (Y.int rfl rfl rfl) ?_
                    refine RunQ.to_end ?_
                    refine Ex.go ?_
                    refine Tr.cond_f rfl (decide_eq_false (Int.not_lt.2 hokA.known)) ?_
                    refine Tr.to_end ?_
                    refine Ex.end_block ?_
                    refine Ex.go ?_
                    refine Tr.region ?_
                    refine Run.val (lt rfl) (Y.move rfl) ?_
                    refine Run.val (lt rfl) (Y.add rfl rfl (by omega)) ?_
                    refine Run.val (lt rfl) (Y.assign rfl) ?_
                    refine Run.to_end ?_
                    refine Ex.keep [1, 1, 1, 1, 1, 1, 2, 1] ?_
                    exact Ex.round ((⟨bA, (Con.takeC cA m now), mA, pA, nA, kA, qA, xA, lA, aA, dA⟩ : Con.Sd), (⟨bB, cB, mB, (some ⟨bq, 0, none⟩), nB, kB, [(bq, .cells cur 37 (0, 0))], xB, lB, aB, dB⟩ : Con.Sd), (now : Int), i + 1) ⟨hokA, hokB, ⟨by show (0 : Int) ≤ now; omega, by show now ≤ 3 * ((i + 1 : Nat) : Int); omega⟩, by show i + 1 ≤ 250; omega, by show i + 1 ≤ l.length; omega⟩ (by show l.length - (i + 1) < l.length - i; omega) rfl rfl (subB_cons (by first | rfl | exact congrArg (fun z => some (Value.int _ z)) (by omega)) (subB_cons (by first | rfl | exact congrArg (fun z => some (Value.int _ z)) (by omega)) (subB_cons (by first | rfl | exact congrArg (fun z => some (Value.int _ z)) (by omega)) (subB_cons (by first | rfl | exact congrArg (fun z => some (Value.int _ z)) (by omega)) (subB_cons (by first | rfl | exact congrArg (fun z => some (Value.int _ z)) (by omega)) (subB_cons (by first | rfl | exact congrArg (fun z => some (Value.int _ z)) (by omega)) (subB_cons (by first | rfl | exact congrArg (fun z => some (Value.int _ z)) (by omega)) (subB_nil _))))))))
                  · have g34 := h34
                    try simp only [kb] at g34
                    have hkd : m.kind = 1 := by simpa using h34
                    have hhe : ¬ aA > m.life ∧ (aA = m.life → ¬ dA ≥ m.xid) := hsA.hear hE hkd
                    refine RunQ.off rfl rfl rfl h34 rfl (lt rfl) ?_
                    refine RunQ.off rfl rfl rfl h34 rfl (lt rfl) ?_
                    refine RunQ.off rfl rfl rfl h34 rfl (lt rfl) ?_
                    refine RunQ.off rfl rfl rfl h34 rfl (lt rfl) ?_
                    refine RunQ.off rfl rfl rfl h34 rfl (lt rfl) ?_
                    refine RunQ.off rfl rfl rfl h34 rfl (lt rfl) ?_
                    refine RunQ.off rfl rfl rfl h34 rfl (lt rfl) ?_
                    refine RunQ.off_u rfl rfl rfl rfl (lt rfl) ?_
                    refine RunQ.off_u rfl rfl rfl rfl (lt rfl) ?_
                    refine RunQ.off_u rfl rfl rfl rfl (lt rfl) ?_
                    refine RunQ.off_u rfl rfl rfl rfl (lt rfl) ?_
                    refine RunQ.off_u rfl rfl rfl rfl (lt rfl) ?_
                    refine RunQ.off_u rfl rfl rfl rfl (lt rfl) ?_
                    refine RunQ.off_u rfl rfl rfl rfl (lt rfl) ?_
                    refine RunQ.off rfl rfl rfl h34 rfl (lt rfl) ?_
                    refine RunQ.val (lt rfl) (Y.pick_f rfl h34 rfl) ?_
                    refine RunQ.to_end ?_
                    refine Ex.go ?_
                    refine Tr.cond_f rfl rfl ?_
                    refine Tr.to_end ?_
                    refine Ex.go ?_
                    refine Tr.seq ?_
                    refine Tr.region ?_
                    refine Run.val (lt rfl) (Y.fieldAddr rfl Lives_fo37_0) ?_
                    refine Run.val (lt rfl) (Y.load rfl Lives_ts3 (Kn.at 0 rfl) rfl) ?_
                    refine Run.val (lt rfl) (Y.int rfl rfl rfl) ?_
                    refine Run.to_end ?_
                    refine Ex.go ?_
                    refine Tr.cond_t rfl (beq_iff_eq.2 hkd) ?_
                    refine Tr.seq ?_
                    refine Tr.seq ?_
                    refine Tr.quiet Lives_mo (by kernel_rfl) ?_
                    refine RunQ.val (lt rfl) (Y.move rfl) ?_
                    refine RunQ.val (lt rfl) (Y.idxArr rfl rfl Lives_al63 (by decide) (by decide)) ?_
                    refine RunQ.val (lt rfl) (Y.idxArr rfl rfl Lives_al24 (by decide) (by decide)) ?_
                    refine RunQ.val (lt rfl) (Y.load rfl Lives_ts3 (Kn.at 3 rfl) rfl) ?_
                    refine RunQ.val (lt rfl) (Y.fieldAddr rfl Lives_fo37_1) ?_
                    refine RunQ.val (lt rfl) (Y.load rfl Lives_ts3 (Kn.at 0 rfl) rfl) ?_
                    refine RunQ.val (lt rfl) (Y.int rfl rfl rfl) ?_
                    refine RunQ.val (lt rfl) (Y.move rfl) ?_
                    refine RunQ.on rfl rfl rfl (decide_eq_false hhe.1) ?_
                    refine RunQ.val (lt rfl) (Y.move rfl) ?_
                    refine RunQ.on rfl rfl rfl (decide_eq_false hhe.1) ?_
                    refine RunQ.val (lt rfl) (Y.idxArr rfl rfl Lives_al63 (by decide) (by decide)) ?_
                    refine RunQ.on rfl rfl rfl (decide_eq_false hhe.1) ?_
                    refine RunQ.val (lt rfl) (Y.idxArr rfl rfl Lives_al24 (by decide) (by decide)) ?_
                    refine RunQ.on rfl rfl rfl (decide_eq_false hhe.1) ?_
                    refine RunQ.val (lt rfl) (Y.load rfl Lives_ts3 (Kn.at 3 rfl) rfl) ?_
                    refine RunQ.on rfl rfl rfl (decide_eq_false hhe.1) ?_
                    refine RunQ.val (lt rfl) (Y.fieldAddr rfl Lives_fo37_1) ?_
                    refine RunQ.on rfl rfl rfl (decide_eq_false hhe.1) ?_
                    refine RunQ.val (lt rfl) (Y.load rfl Lives_ts3 (Kn.at 0 rfl) rfl) ?_
                    refine RunQ.on rfl rfl rfl (decide_eq_false hhe.1) ?_
                    refine RunQ.val (lt rfl) (Y.int rfl rfl rfl) ?_
                    refine RunQ.on rfl rfl rfl (decide_eq_false hhe.1) ?_
                    refine RunQ.val (lt rfl) (Y.move rfl) ?_
                    rcases Bool.eq_false_or_eq_true (aA == m.life) with h35 | h35
                    · have g35 := h35
                      try simp only [kb] at g35
                      refine RunQ.on rfl rfl rfl h35 ?_
                      refine RunQ.val (lt rfl) (Y.move rfl) ?_
                      refine RunQ.on rfl rfl rfl h35 ?_
                      refine RunQ.val (lt rfl) (Y.idxArr rfl rfl Lives_al63 (by decide) (by decide)) ?_
                      refine RunQ.on rfl rfl rfl h35 ?_
                      refine RunQ.val (lt rfl) (Y.idxArr rfl rfl Lives_al24 (by decide) (by decide)) ?_
                      refine RunQ.on rfl rfl rfl h35 ?_
                      refine RunQ.val (lt rfl) (Y.load rfl Lives_ts3 (Kn.at 3 rfl) rfl) ?_
                      refine RunQ.on rfl rfl rfl h35 ?_
                      refine RunQ.val (lt rfl) (Y.fieldAddr rfl Lives_fo37_3) ?_
                      refine RunQ.on rfl rfl rfl h35 ?_
                      refine RunQ.val (lt rfl) (Y.load rfl Lives_ts3 (Kn.at 0 rfl) rfl) ?_
                      refine RunQ.on rfl rfl rfl h35 ?_
                      refine RunQ.val (lt rfl) (Y.int rfl rfl rfl) ?_
                      refine RunQ.on rfl rfl rfl (decide_eq_false hhe.1) ?_
                      refine RunQ.val (lt rfl) (Y.pick_t rfl h35 rfl) ?_
                      refine RunQ.val (lt rfl) (Y.pick_f rfl (decide_eq_false hhe.1) rfl) ?_
                      refine RunQ.to_end ?_
                      refine Ex.go ?_
                      refine Tr.cond_f rfl (decide_eq_false (hhe.2 (by simpa using h35))) ?_
                      refine Tr.to_end ?_
                      refine Ex.go ?_
                      refine Tr.region ?_
                      refine Run.val (lt rfl) (Y.move rfl) ?_
                      refine Run.val (lt rfl) (Y.fieldAddr rfl Lives_fo37_1) ?_
                      refine Run.val (lt rfl) (Y.load rfl Lives_ts3 (Kn.at 0 rfl) rfl) ?_
                      refine Run.val (lt rfl) (Y.fieldAddr rfl Lives_fo37_3) ?_
                      refine Run.val (lt rfl) (Y.load rfl Lives_ts3 (Kn.at 0 rfl) rfl) ?_
                      refine Run.val (lt rfl) (Y.buildA (l := [(0, .tmp 201), (1, .tmp 203)]) Lives_zo24 Lives_ea24 rfl rfl) ?_
                      refine Run.val (lt rfl) (Y.idxArr rfl rfl Lives_al63 (by decide) (by decide)) ?_
                      refine Run.store (s := [(b8, .cells #[.int .i64 m.life, .int .i64 m.xid, .int .i64 aB, .int .i64 dB] 63 (0, 0))]) rfl rfl Lives_sz24 (i := 3) rfl rfl (le rfl) rfl rfl ?_
                      refine Run.to_end ?_
                      refine Ex.end_block ?_
                      refine Ex.go ?_
                      refine Tr.seq ?_
                      refine Tr.quiet Lives_mo (by kernel_rfl) ?_
                      have hokA : Con.Sd.ok 37 ⟨bA, (Con.takeC cA m now), mA, pA, nA, kA, qA, xA, lA, m.life, m.xid⟩ ⟨bB, cB, mB, (some ⟨bq, 0, none⟩), nB, kB, [(bq, .cells cur 37 (0, 0))], xB, lB, aB, dB⟩ (i + 1) := hsA.takeHello hE hkd hml
                      have hokB : Con.Sd.ok 37 ⟨bB, cB, mB, (some ⟨bq, 0, none⟩), nB, kB, [(bq, .cells cur 37 (0, 0))], xB, lB, aB, dB⟩ ⟨bA, (Con.takeC cA m now), mA, pA, nA, kA, qA, xA, lA, m.life, m.xid⟩ (i + 1) := hsB.rest (Int.le_refl _)
                      refine RunQ.val (lt rfl) (Y.move rfl) ?_
                      refine RunQ.val (lt rfl) (Y.idxArr rfl rfl Lives_al60 (by decide) (by decide)) ?_
                      refine RunQ.val (lt rfl) (Y.load rfl Lives_ts46 (Kn.at 6 rfl) rfl) ?_
                      refine RunQ.call0 (l := [.tmp 249]) rfl rfl rfl (lt rfl) (other_c (c := (Con.takeC cA m now)) (Kn.at 8 rfl)) ?_
                      refine RunQ.val (lt rfl) (Y.move rfl) ?_
                      refine RunQ.val (lt rfl) (Y.int (r := .int .i64 1) rfl rfl rfl) ?_
                      refine RunQ.val (lt rfl) (Y.idxArr rfl rfl Lives_al24 (by decide) (by decide)) ?_
                      refine RunQ.val (lt rfl) (Y.load rfl Lives_ts3 (Kn.at 5 rfl) rfl) ?_
                      refine RunQ.val (lt rfl) (Y.int rfl rfl rfl) ?_
                      refine RunQ.to_end ?_
                      refine Ex.go ?_
                      refine Tr.cond_f rfl (decide_eq_false (Int.not_lt.2 hokA.known)) ?_
                      refine Tr.to_end ?_
                      refine Ex.end_block ?_
                      refine Ex.go ?_
                      refine Tr.region ?_
                      refine Run.val (lt rfl) (Y.move rfl) ?_
                      refine Run.val (lt rfl) (Y.add rfl rfl (by omega)) ?_
                      refine Run.val (lt rfl) (Y.assign rfl) ?_
                      refine Run.to_end ?_
                      refine Ex.keep [1, 1, 1, 1, 1, 1, 2, 1] ?_
                      exact Ex.round ((⟨bA, (Con.takeC cA m now), mA, pA, nA, kA, qA, xA, lA, m.life, m.xid⟩ : Con.Sd), (⟨bB, cB, mB, (some ⟨bq, 0, none⟩), nB, kB, [(bq, .cells cur 37 (0, 0))], xB, lB, aB, dB⟩ : Con.Sd), (now : Int), i + 1) ⟨hokA, hokB, ⟨by show (0 : Int) ≤ now; omega, by show now ≤ 3 * ((i + 1 : Nat) : Int); omega⟩, by show i + 1 ≤ 250; omega, by show i + 1 ≤ l.length; omega⟩ (by show l.length - (i + 1) < l.length - i; omega) rfl rfl (subB_cons (by first | rfl | exact congrArg (fun z => some (Value.int _ z)) (by omega)) (subB_cons (by first | rfl | exact congrArg (fun z => some (Value.int _ z)) (by omega)) (subB_cons (by first | rfl | exact congrArg (fun z => some (Value.int _ z)) (by omega)) (subB_cons (by first | rfl | exact congrArg (fun z => some (Value.int _ z)) (by omega)) (subB_cons (by first | rfl | exact congrArg (fun z => some (Value.int _ z)) (by omega)) (subB_cons (by first | rfl | exact congrArg (fun z => some (Value.int _ z)) (by omega)) (subB_cons (by first | rfl | exact congrArg (fun z => some (Value.int _ z)) (by omega)) (subB_nil _))))))))
                    · have g35 := h35
                      try simp only [kb] at g35
                      refine RunQ.off rfl rfl rfl h35 rfl (lt rfl) ?_
                      refine RunQ.off rfl rfl rfl h35 rfl (lt rfl) ?_
                      refine RunQ.off rfl rfl rfl h35 rfl (lt rfl) ?_
                      refine RunQ.off rfl rfl rfl h35 rfl (lt rfl) ?_
                      refine RunQ.off rfl rfl rfl h35 rfl (lt rfl) ?_
                      refine RunQ.off rfl rfl rfl h35 rfl (lt rfl) ?_
                      refine RunQ.off rfl rfl rfl h35 rfl (lt rfl) ?_
                      refine RunQ.on rfl rfl rfl (decide_eq_false hhe.1) ?_
                      refine RunQ.val (lt rfl) (Y.pick_f rfl h35 rfl) ?_
                      refine RunQ.val (lt rfl) (Y.pick_f rfl (decide_eq_false hhe.1) rfl) ?_
                      refine RunQ.to_end ?_
                      refine Ex.go ?_
                      refine Tr.cond_f rfl rfl ?_
                      refine Tr.to_end ?_
                      refine Ex.go ?_
                      refine Tr.region ?_
                      refine Run.val (lt rfl) (Y.move rfl) ?_
                      refine Run.val (lt rfl) (Y.fieldAddr rfl Lives_fo37_1) ?_
                      refine Run.val (lt rfl) (Y.load rfl Lives_ts3 (Kn.at 0 rfl) rfl) ?_
                      refine Run.val (lt rfl) (Y.fieldAddr rfl Lives_fo37_3) ?_
                      refine Run.val (lt rfl) (Y.load rfl Lives_ts3 (Kn.at 0 rfl) rfl) ?_
                      refine Run.val (lt rfl) (Y.buildA (l := [(0, .tmp 201), (1, .tmp 203)]) Lives_zo24 Lives_ea24 rfl rfl) ?_
                      refine Run.val (lt rfl) (Y.idxArr rfl rfl Lives_al63 (by decide) (by decide)) ?_
                      refine Run.store (s := [(b8, .cells #[.int .i64 m.life, .int .i64 m.xid, .int .i64 aB, .int .i64 dB] 63 (0, 0))]) rfl rfl Lives_sz24 (i := 3) rfl rfl (le rfl) rfl rfl ?_
                      refine Run.to_end ?_
                      refine Ex.end_block ?_
                      refine Ex.go ?_
                      refine Tr.seq ?_
                      refine Tr.quiet Lives_mo (by kernel_rfl) ?_
                      have hokA : Con.Sd.ok 37 ⟨bA, (Con.takeC cA m now), mA, pA, nA, kA, qA, xA, lA, m.life, m.xid⟩ ⟨bB, cB, mB, (some ⟨bq, 0, none⟩), nB, kB, [(bq, .cells cur 37 (0, 0))], xB, lB, aB, dB⟩ (i + 1) := hsA.takeHello hE hkd hml
                      have hokB : Con.Sd.ok 37 ⟨bB, cB, mB, (some ⟨bq, 0, none⟩), nB, kB, [(bq, .cells cur 37 (0, 0))], xB, lB, aB, dB⟩ ⟨bA, (Con.takeC cA m now), mA, pA, nA, kA, qA, xA, lA, m.life, m.xid⟩ (i + 1) := hsB.rest (Int.le_refl _)
                      refine RunQ.val (lt rfl) (Y.move rfl) ?_
                      refine RunQ.val (lt rfl) (Y.idxArr rfl rfl Lives_al60 (by decide) (by decide)) ?_
                      refine RunQ.val (lt rfl) (Y.load rfl Lives_ts46 (Kn.at 6 rfl) rfl) ?_
                      refine RunQ.call0 (l := [.tmp 249]) rfl rfl rfl (lt rfl) (other_c (c := (Con.takeC cA m now)) (Kn.at 8 rfl)) ?_
                      refine RunQ.val (lt rfl) (Y.move rfl) ?_
                      refine RunQ.val (lt rfl) (Y.int (r := .int .i64 1) rfl rfl rfl) ?_
                      refine RunQ.val (lt rfl) (Y.idxArr rfl rfl Lives_al24 (by decide) (by decide)) ?_
                      refine RunQ.val (lt rfl) (Y.load rfl Lives_ts3 (Kn.at 5 rfl) rfl) ?_
                      refine RunQ.val (lt rfl) (Y.int rfl rfl rfl) ?_
                      refine RunQ.to_end ?_
                      refine Ex.go ?_
                      refine Tr.cond_f rfl (decide_eq_false (Int.not_lt.2 hokA.known)) ?_
                      refine Tr.to_end ?_
                      refine Ex.end_block ?_
                      refine Ex.go ?_
                      refine Tr.region ?_
                      refine Run.val (lt rfl) (Y.move rfl) ?_
                      refine Run.val (lt rfl) (Y.add rfl rfl (by omega)) ?_
                      refine Run.val (lt rfl) (Y.assign rfl) ?_
                      refine Run.to_end ?_
                      refine Ex.keep [1, 1, 1, 1, 1, 1, 2, 1] ?_
                      exact Ex.round ((⟨bA, (Con.takeC cA m now), mA, pA, nA, kA, qA, xA, lA, m.life, m.xid⟩ : Con.Sd), (⟨bB, cB, mB, (some ⟨bq, 0, none⟩), nB, kB, [(bq, .cells cur 37 (0, 0))], xB, lB, aB, dB⟩ : Con.Sd), (now : Int), i + 1) ⟨hokA, hokB, ⟨by show (0 : Int) ≤ now; omega, by show now ≤ 3 * ((i + 1 : Nat) : Int); omega⟩, by show i + 1 ≤ 250; omega, by show i + 1 ≤ l.length; omega⟩ (by show l.length - (i + 1) < l.length - i; omega) rfl rfl (subB_cons (by first | rfl | exact congrArg (fun z => some (Value.int _ z)) (by omega)) (subB_cons (by first | rfl | exact congrArg (fun z => some (Value.int _ z)) (by omega)) (subB_cons (by first | rfl | exact congrArg (fun z => some (Value.int _ z)) (by omega)) (subB_cons (by first | rfl | exact congrArg (fun z => some (Value.int _ z)) (by omega)) (subB_cons (by first | rfl | exact congrArg (fun z => some (Value.int _ z)) (by omega)) (subB_cons (by first | rfl | exact congrArg (fun z => some (Value.int _ z)) (by omega)) (subB_cons (by first | rfl | exact congrArg (fun z => some (Value.int _ z)) (by omega)) (subB_nil _))))))))
            · have g29 := h29
              try simp only [kb] at g29
              refine Tr.cond_f rfl h29 ?_
              refine Tr.seq ?_
              refine Tr.region ?_
              refine Run.val (lt rfl) (Y.int rfl rfl rfl) ?_
              refine Run.val (lt rfl) (Y.assign rfl) ?_
              refine Run.to_end ?_
              refine Ex.go ?_
              rcases Bool.eq_false_or_eq_true (e.do_ == 3) with h36 | h36
              · have g36 := h36
                try simp only [kb] at g36
                refine Tr.cond_t rfl h36 ?_
                refine Tr.seq ?_
                refine Tr.region ?_
                refine Run.val (lt rfl) (Y.move rfl) ?_
                refine Run.val (lt rfl) (Y.move rfl) ?_
                refine Run.val (lt rfl) (Y.move rfl) ?_
                refine Run.val (lt rfl) (Y.idxAddr rfl rfl Lives_es59 (by omega) (by omega)) ?_
                refine Run.val (lt rfl) (Y.fieldAddr rfl Lives_fo65_2) ?_
                refine Run.val (lt rfl) (Y.load rfl Lives_ts3 hk.of_nil (hrow 2 (by decide))) ?_
                refine Run.val (lt rfl) (Y.int (r := .int .i64 (e.n % 4)) rfl rfl (by simp only [intRes]; rw [and_low e.n 3 4 2 (by decide) rfl rfl])) ?_
                refine Run.val (lt rfl) (Y.add rfl rfl (by omega)) ?_
                refine Run.val (lt rfl) (Y.assign rfl) ?_
                refine Run.to_end ?_
                refine Ex.go ?_
                refine Tr.region ?_
                refine Run.val (lt rfl) (Y.move rfl) ?_
                refine Run.val (lt rfl) (Y.idxArr rfl rfl Lives_al60 (by decide) (by decide)) ?_
                refine Run.val (lt rfl) (Y.load rfl Lives_ts46 (Kn.at 5 rfl) rfl) ?_
                refine Run.val (lt rfl) (Y.move rfl) ?_
                refine Run.call [6] (l := [.tmp 218, .tmp 219]) rfl rfl rfl (lt rfl) (tick_c (c := cA) (now := now + (e.n % 4)) hsA.inv) (fun v37 V2 H2 _ hR => ?_)
                obtain ⟨hV, rfl, rfl⟩ := hR; replace hV := hV.symm; subst hV
                refine Run.to_end ?_
                refine Ex.end_block ?_
                refine Ex.go ?_
                refine Tr.seq ?_
                refine Tr.quiet Lives_mo (by kernel_rfl) ?_
                have hokA : Con.Sd.ok 37 ⟨bA, (Con.tickC cA (now + (e.n % 4))), mA, pA, nA, kA, qA, xA, lA, aA, dA⟩ ⟨bB, cB, mB, pB, nB, kB, qB, xB, lB, aB, dB⟩ (i + 1) := hsA.tick (now + (e.n % 4))
                have hokB : Con.Sd.ok 37 ⟨bB, cB, mB, pB, nB, kB, qB, xB, lB, aB, dB⟩ ⟨bA, (Con.tickC cA (now + (e.n % 4))), mA, pA, nA, kA, qA, xA, lA, aA, dA⟩ (i + 1) := hsB.rest (Int.le_refl _)
                refine RunQ.val (lt rfl) (Y.move rfl) ?_
                refine RunQ.val (lt rfl) (Y.idxArr rfl rfl Lives_al60 (by decide) (by decide)) ?_
                refine RunQ.val (lt rfl) (Y.load rfl Lives_ts46 (Kn.at 5 rfl) rfl) ?_
                refine RunQ.call0 (l := [.tmp 249]) rfl rfl rfl (lt rfl) (other_c (c := (Con.tickC cA (now + (e.n % 4)))) (Kn.at 7 rfl)) ?_
                refine RunQ.val (lt rfl) (Y.move rfl) ?_
                refine RunQ.val (lt rfl) (Y.int (r := .int .i64 1) rfl rfl rfl) ?_
                refine RunQ.val (lt rfl) (Y.idxArr rfl rfl Lives_al24 (by decide) (by decide)) ?_
                refine RunQ.val (lt rfl) (Y.load rfl Lives_ts3 (Kn.at 4 rfl) rfl) ?_
                refine RunQ.val (lt rfl) (Y.int rfl rfl rfl) ?_
                refine RunQ.to_end ?_
                refine Ex.go ?_
                refine Tr.cond_f rfl (decide_eq_false (Int.not_lt.2 hokA.known)) ?_
                refine Tr.to_end ?_
                refine Ex.end_block ?_
                refine Ex.go ?_
                refine Tr.region ?_
                refine Run.val (lt rfl) (Y.move rfl) ?_
                refine Run.val (lt rfl) (Y.add rfl rfl (by omega)) ?_
                refine Run.val (lt rfl) (Y.assign rfl) ?_
                refine Run.to_end ?_
                refine Ex.keep [0, 0, 0, 0, 0, 0, 1, 0] ?_
                exact Ex.round ((⟨bA, (Con.tickC cA (now + (e.n % 4))), mA, pA, nA, kA, qA, xA, lA, aA, dA⟩ : Con.Sd), (⟨bB, cB, mB, pB, nB, kB, qB, xB, lB, aB, dB⟩ : Con.Sd), (now + (e.n % 4) : Int), i + 1) ⟨hokA, hokB, ⟨by show (0 : Int) ≤ now + (e.n % 4); omega, by show now + (e.n % 4) ≤ 3 * ((i + 1 : Nat) : Int); omega⟩, by show i + 1 ≤ 250; omega, by show i + 1 ≤ l.length; omega⟩ (by show l.length - (i + 1) < l.length - i; omega) rfl rfl (subB_cons (by first | rfl | exact congrArg (fun z => some (Value.int _ z)) (by omega)) (subB_cons (by first | rfl | exact congrArg (fun z => some (Value.int _ z)) (by omega)) (subB_cons (by first | rfl | exact congrArg (fun z => some (Value.int _ z)) (by omega)) (subB_cons (by first | rfl | exact congrArg (fun z => some (Value.int _ z)) (by omega)) (subB_cons (by first | rfl | exact congrArg (fun z => some (Value.int _ z)) (by omega)) (subB_cons (by first | rfl | exact congrArg (fun z => some (Value.int _ z)) (by omega)) (subB_cons (by first | rfl | exact congrArg (fun z => some (Value.int _ z)) (by omega)) (subB_nil _))))))))
              · have g36 := h36
                try simp only [kb] at g36
                refine Tr.cond_f rfl h36 ?_
                refine Tr.seq ?_
                refine Tr.region ?_
                refine Run.val (lt rfl) (Y.int rfl rfl rfl) ?_
                refine Run.val (lt rfl) (Y.assign rfl) ?_
                refine Run.to_end ?_
                refine Ex.go ?_
                rcases Bool.eq_false_or_eq_true (e.do_ == 4) with h38 | h38
                · have g38 := h38
                  try simp only [kb] at g38
                  refine Tr.cond_t rfl h38 ?_
                  refine Tr.seq ?_
                  refine Tr.region ?_
                  refine Run.val (lt rfl) (Y.move rfl) ?_
                  refine Run.val (lt rfl) (Y.idxArr rfl rfl Lives_al24 (by decide) (by decide)) ?_
                  refine Run.val (lt rfl) (Y.load rfl Lives_ts3 (Kn.at 4 rfl) rfl) ?_
                  refine Run.val (lt rfl) (Y.add rfl rfl (by omega)) ?_
                  refine Run.val (lt rfl) (Y.idxArr rfl rfl Lives_al24 (by decide) (by decide)) ?_
                  refine Run.store (s := [(b6, .cells #[.int .i64 (mA + 1), .int .i64 mB] 24 (0, 0))]) rfl rfl Lives_sz3 (i := 4) rfl rfl (le rfl) rfl rfl ?_
                  refine Run.to_end ?_
                  refine Ex.go ?_
                  refine Tr.seq ?_
                  refine Tr.region ?_
                  refine Run.val (lt rfl) (Y.move rfl) ?_
                  refine Run.val (lt rfl) (Y.idxArr rfl rfl Lives_al24 (by decide) (by decide)) ?_
                  refine Run.val (lt rfl) (Y.load rfl Lives_ts3 (Kn.at 4 rfl) rfl) ?_
                  refine Run.call [] (l := [.tmp 231]) rfl rfl rfl (lt rfl) (new_c_yes (n := mA + 1) (by omega)) (fun v40 V2 H2 _ hR => ?_)
                  obtain ⟨hV, b39, rfl, rfl⟩ := hR; replace hV := hV.symm; subst hV
                  refine Run.val (lt rfl) (Y.move rfl) ?_
                  refine Run.val (lt rfl) (Y.extract rfl rfl) ?_
                  refine Run.val (lt rfl) (Y.extract rfl rfl) ?_
                  refine Run.val (lt rfl) (Y.assign rfl) ?_
                  refine Run.val (lt rfl) (Y.assign rfl) ?_
                  refine Run.to_end ?_
                  refine Ex.go ?_
                  refine Tr.seq ?_
                  refine Tr.seq ?_
                  refine Tr.region ?_
                  refine Run.val (lt rfl) (Y.move rfl) ?_
                  refine Run.val (lt rfl) (Y.int (r := .bool false) rfl rfl rfl) ?_
                  refine Run.val (lt rfl) (Y.move rfl) ?_
                  refine Run.on rfl rfl rfl rfl ?_
                  refine Run.val (lt rfl) (Y.move rfl) ?_
                  refine Run.on rfl rfl rfl rfl ?_
                  refine Run.val (lt rfl) (Y.eqNil rfl rfl Lives_pt46) ?_
                  refine Run.val (lt rfl) (Y.pick_f rfl rfl rfl) ?_
                  refine Run.to_end ?_
                  refine Ex.go ?_
                  refine Tr.cond_f rfl rfl ?_
                  refine Tr.to_end ?_
                  refine Ex.go ?_
                  refine Tr.seq ?_
                  refine Tr.region ?_
                  refine Run.val (lt rfl) (Y.move rfl) ?_
                  refine Run.val (lt rfl) (Y.move rfl) ?_
                  refine Run.val (lt rfl) (Y.idxArr rfl rfl Lives_al60 (by decide) (by decide)) ?_
                  refine Run.store (s := [(b5, .cells #[.pointer (some ⟨b39, 0, none⟩), .pointer (some ⟨bB, 0, none⟩)] 60 (0, 0))]) rfl rfl Lives_sz46 (i := 5) rfl rfl (le rfl) rfl rfl ?_
                  refine Run.to_end ?_
                  refine Ex.go ?_
                  refine Tr.region ?_
                  refine Run.val (lt rfl) (Y.move rfl) ?_
                  refine Run.val (lt rfl) (Y.buildA (l := []) Lives_zo24 Lives_ea24 rfl rfl) ?_
                  refine Run.val (lt rfl) (Y.idxArr rfl rfl Lives_al63 (by decide) (by decide)) ?_
                  refine Run.store (s := [(b8, .cells #[.int .i64 0, .int .i64 0, .int .i64 aB, .int .i64 dB] 63 (0, 0))]) rfl rfl Lives_sz24 (i := 2) rfl rfl (le rfl) rfl rfl ?_
                  refine Run.to_end ?_
                  refine Ex.end_block ?_
                  refine Ex.go ?_
                  refine Tr.seq ?_
                  refine Tr.quiet Lives_mo (by kernel_rfl) ?_
                  have hokA : Con.Sd.ok 37 ⟨b39, (Con.new (mA + 1)), mA + 1, pA, nA, kA, qA, xA, lA, 0, 0⟩ ⟨bB, cB, mB, pB, nB, kB, qB, xB, lB, aB, dB⟩ (i + 1) := hsA.anew (by omega) honeB
                  have hokB : Con.Sd.ok 37 ⟨bB, cB, mB, pB, nB, kB, qB, xB, lB, aB, dB⟩ ⟨b39, (Con.new (mA + 1)), mA + 1, pA, nA, kA, qA, xA, lA, 0, 0⟩ (i + 1) := hsB.rest (by show mA ≤ mA + 1; omega)
                  refine RunQ.val (lt rfl) (Y.move rfl) ?_
                  refine RunQ.val (lt rfl) (Y.idxArr rfl rfl Lives_al60 (by decide) (by decide)) ?_
                  refine RunQ.val (lt rfl) (Y.load rfl Lives_ts46 (Kn.at 5 rfl) rfl) ?_
                  refine RunQ.call0 (l := [.tmp 249]) rfl rfl rfl (lt rfl) (other_c (c := (Con.new (mA + 1))) (Kn.at 8 rfl)) ?_
                  refine RunQ.val (lt rfl) (Y.move rfl) ?_
                  refine RunQ.val (lt rfl) (Y.int (r := .int .i64 1) rfl rfl rfl) ?_
                  refine RunQ.val (lt rfl) (Y.idxArr rfl rfl Lives_al24 (by decide) (by decide)) ?_
                  refine RunQ.val (lt rfl) (Y.load rfl Lives_ts3 (Kn.at 4 rfl) rfl) ?_
                  refine RunQ.val (lt rfl) (Y.int rfl rfl rfl) ?_
                  refine RunQ.to_end ?_
                  refine Ex.go ?_
                  refine Tr.cond_f rfl (decide_eq_false (Int.not_lt.2 hokA.known)) ?_
                  refine Tr.to_end ?_
                  refine Ex.end_block ?_
                  refine Ex.go ?_
                  refine Tr.region ?_
                  refine Run.val (lt rfl) (Y.move rfl) ?_
                  refine Run.val (lt rfl) (Y.add rfl rfl (by omega)) ?_
                  refine Run.val (lt rfl) (Y.assign rfl) ?_
                  refine Run.to_end ?_
                  refine Ex.keep [0, 0, 0, 0, 0, 0, 2, 1] ?_
                  exact Ex.round ((⟨b39, (Con.new (mA + 1)), mA + 1, pA, nA, kA, qA, xA, lA, 0, 0⟩ : Con.Sd), (⟨bB, cB, mB, pB, nB, kB, qB, xB, lB, aB, dB⟩ : Con.Sd), (now : Int), i + 1) ⟨hokA, hokB, ⟨by show (0 : Int) ≤ now; omega, by show now ≤ 3 * ((i + 1 : Nat) : Int); omega⟩, by show i + 1 ≤ 250; omega, by show i + 1 ≤ l.length; omega⟩ (by show l.length - (i + 1) < l.length - i; omega) rfl rfl (subB_cons (by first | rfl | exact congrArg (fun z => some (Value.int _ z)) (by omega)) (subB_cons (by first | rfl | exact congrArg (fun z => some (Value.int _ z)) (by omega)) (subB_cons (by first | rfl | exact congrArg (fun z => some (Value.int _ z)) (by omega)) (subB_cons (by first | rfl | exact congrArg (fun z => some (Value.int _ z)) (by omega)) (subB_cons (by first | rfl | exact congrArg (fun z => some (Value.int _ z)) (by omega)) (subB_cons (by first | rfl | exact congrArg (fun z => some (Value.int _ z)) (by omega)) (subB_cons (by first | rfl | exact congrArg (fun z => some (Value.int _ z)) (by omega)) (subB_nil _))))))))
                · have g38 := h38
                  try simp only [kb] at g38
                  refine Tr.cond_f rfl h38 ?_
                  refine Tr.to_end ?_
                  refine Ex.end_block ?_
                  refine Ex.go ?_
                  refine Tr.seq ?_
                  refine Tr.quiet Lives_mo (by kernel_rfl) ?_
                  have hokA : Con.Sd.ok 37 ⟨bA, cA, mA, pA, nA, kA, qA, xA, lA, aA, dA⟩ ⟨bB, cB, mB, pB, nB, kB, qB, xB, lB, aB, dB⟩ (i + 1) := hsA.rest (Int.le_refl _)
                  have hokB : Con.Sd.ok 37 ⟨bB, cB, mB, pB, nB, kB, qB, xB, lB, aB, dB⟩ ⟨bA, cA, mA, pA, nA, kA, qA, xA, lA, aA, dA⟩ (i + 1) := hsB.rest (Int.le_refl _)
                  refine RunQ.val (lt rfl) (Y.move rfl) ?_
                  refine RunQ.val (lt rfl) (Y.idxArr rfl rfl Lives_al60 (by decide) (by decide)) ?_
                  refine RunQ.val (lt rfl) (Y.load rfl Lives_ts46 (Kn.at 5 rfl) rfl) ?_
                  refine RunQ.call0 (l := [.tmp 249]) rfl rfl rfl (lt rfl) (other_c (c := cA) (Kn.at 6 rfl)) ?_
                  refine RunQ.val (lt rfl) (Y.move rfl) ?_
                  refine RunQ.val (lt rfl) (Y.int (r := .int .i64 1) rfl rfl rfl) ?_
                  refine RunQ.val (lt rfl) (Y.idxArr rfl rfl Lives_al24 (by decide) (by decide)) ?_
                  refine RunQ.val (lt rfl) (Y.load rfl Lives_ts3 (Kn.at 4 rfl) rfl) ?_
                  refine RunQ.val (lt rfl) (Y.int rfl rfl rfl) ?_
                  refine RunQ.to_end ?_
                  refine Ex.go ?_
                  refine Tr.cond_f rfl (decide_eq_false (Int.not_lt.2 hokA.known)) ?_
                  refine Tr.to_end ?_
                  refine Ex.end_block ?_
                  refine Ex.go ?_
                  refine Tr.region ?_
                  refine Run.val (lt rfl) (Y.move rfl) ?_
                  refine Run.val (lt rfl) (Y.add rfl rfl (by omega)) ?_
                  refine Run.val (lt rfl) (Y.assign rfl) ?_
                  refine Run.to_end ?_
                  refine Ex.keep [0, 0, 0, 0, 0, 0, 0, 0] ?_
                  exact Ex.round ((⟨bA, cA, mA, pA, nA, kA, qA, xA, lA, aA, dA⟩ : Con.Sd), (⟨bB, cB, mB, pB, nB, kB, qB, xB, lB, aB, dB⟩ : Con.Sd), (now : Int), i + 1) ⟨hokA, hokB, ⟨by show (0 : Int) ≤ now; omega, by show now ≤ 3 * ((i + 1 : Nat) : Int); omega⟩, by show i + 1 ≤ 250; omega, by show i + 1 ≤ l.length; omega⟩ (by show l.length - (i + 1) < l.length - i; omega) rfl rfl (subB_cons (by first | rfl | exact congrArg (fun z => some (Value.int _ z)) (by omega)) (subB_cons (by first | rfl | exact congrArg (fun z => some (Value.int _ z)) (by omega)) (subB_cons (by first | rfl | exact congrArg (fun z => some (Value.int _ z)) (by omega)) (subB_cons (by first | rfl | exact congrArg (fun z => some (Value.int _ z)) (by omega)) (subB_cons (by first | rfl | exact congrArg (fun z => some (Value.int _ z)) (by omega)) (subB_cons (by first | rfl | exact congrArg (fun z => some (Value.int _ z)) (by omega)) (subB_cons (by first | rfl | exact congrArg (fun z => some (Value.int _ z)) (by omega)) (subB_nil _))))))))
      · refine Run.val (lt rfl) (Y.int (r := .int .i64 1) rfl rfl (by simp only [intRes]; rw [and_low e.who 1 2 1 (by decide) rfl rfl, hwho])) ?_
        refine Run.val (lt rfl) (Y.assign rfl) ?_
        refine Run.to_end ?_
        refine Ex.go ?_
        refine Tr.seq ?_
        refine Tr.seq ?_
        refine Tr.region ?_
        refine Run.val (lt rfl) (Y.move rfl) ?_
        refine Run.val (lt rfl) (Y.move rfl) ?_
        refine Run.val (lt rfl) (Y.idxAddr rfl rfl Lives_es59 (by omega) (by omega)) ?_
        refine Run.val (lt rfl) (Y.fieldAddr rfl Lives_fo65_0) ?_
        refine Run.val (lt rfl) (Y.load rfl Lives_ts3 hk.of_nil (hrow 0 (by decide))) ?_
        refine Run.to_end ?_
        refine Ex.go ?_
        refine Tr.block ?_
        refine Tr.seq ?_
        refine Tr.region ?_
        refine Run.val (lt rfl) (Y.int rfl rfl rfl) ?_
        refine Run.val (lt rfl) (Y.assign rfl) ?_
        refine Run.to_end ?_
        refine Ex.go ?_
        rcases Bool.eq_false_or_eq_true (e.do_ == 0) with h41 | h41
        · have g41 := h41
          try simp only [kb] at g41
          have hE : Con.helloE cB (e.n % 8) = 0 := hsB.helloE (by omega) (by omega)
          refine Tr.cond_t rfl h41 ?_
          refine Tr.seq ?_
          refine Tr.anyD [(b5, .cells #[.pointer (some ⟨bA, 0, none⟩), .pointer (some ⟨bB, 0, none⟩)] 60 (0, 0)), (b, .cells cs et fz)] Lives_mo ?_
          refine RunD.pure (i := 0) rfl (by kernel_rfl) (by kernel_rfl) (by kernel_rfl) (fun _ _ _ h => h) (lt rfl) (KnAll.cons (Kn.at 5 rfl) (KnAll.cons hk.of_nil KnAll.nil)) (fun _ => (Y.move rfl)) ?_
          refine RunD.pure (i := 1) rfl (by kernel_rfl) (by kernel_rfl) (by kernel_rfl) (fun _ _ _ h => h) (lt rfl) (KnAll.cons (Kn.at 5 rfl) (KnAll.cons hk.of_nil KnAll.nil)) (fun _ => (Y.idxArr rfl rfl Lives_al60 (by decide) (by decide))) ?_
          refine RunD.take (i := 2) 0 rfl rfl (by kernel_rfl) (by kernel_rfl) (by kernel_rfl) (fun _ _ _ h => h) (lt rfl) (KnAll.cons (Kn.at 5 rfl) (KnAll.cons hk.of_nil KnAll.nil)) (fun _ => (Y.load rfl Lives_ts46 Kn.vk1 rfl)) ?_
          refine RunD.pure (i := 3) rfl (by kernel_rfl) (by kernel_rfl) (by kernel_rfl) (fun _ _ _ h => h) (lt rfl) (KnAll.cons (Kn.at 5 rfl) (KnAll.cons hk.of_nil KnAll.nil)) (fun _ => (Y.move rfl)) ?_
          refine RunD.pure (i := 4) rfl (by kernel_rfl) (by kernel_rfl) (by kernel_rfl) (fun _ _ _ h => h) (lt rfl) (KnAll.cons (Kn.at 5 rfl) (KnAll.cons hk.of_nil KnAll.nil)) (fun _ => (Y.move rfl)) ?_
          refine RunD.pure (i := 5) rfl (by kernel_rfl) (by kernel_rfl) (by kernel_rfl) (fun _ _ _ h => h) (lt rfl) (KnAll.cons (Kn.at 5 rfl) (KnAll.cons hk.of_nil KnAll.nil)) (fun _ => (Y.idxAddr rfl rfl Lives_es59 (by omega) (by omega))) ?_
          refine RunD.pure (i := 6) rfl (by kernel_rfl) (by kernel_rfl) (by kernel_rfl) (fun _ _ _ h => h) (lt rfl) (KnAll.cons (Kn.at 5 rfl) (KnAll.cons hk.of_nil KnAll.nil)) (fun _ => (Y.fieldAddr rfl Lives_fo65_2)) ?_
          refine RunD.take (i := 7) 1 rfl rfl (by kernel_rfl) (by kernel_rfl) (by kernel_rfl) (fun _ _ _ h => h) (lt rfl) (KnAll.cons (Kn.at 5 rfl) (KnAll.cons hk.of_nil KnAll.nil)) (fun _ => (Y.load rfl Lives_ts3 Kn.vk1 (hrow 2 (by decide)))) ?_
          refine RunD.pure (i := 8) rfl (by kernel_rfl) (by kernel_rfl) (by kernel_rfl) (fun _ _ _ h => h) (lt rfl) (KnAll.cons (Kn.at 5 rfl) (KnAll.cons hk.of_nil KnAll.nil)) (fun _ => (Y.int (r := .int .i64 (e.n % 8)) rfl rfl (by simp only [intRes]; rw [and_low e.n 7 8 3 (by decide) rfl rfl]))) ?_
          refine RunD.two (i := 9) (j := 13) (by kernel_rfl) rfl rfl  ?_ ?_ 
          · refine Run.call [7] (l := [.tmp 72, .tmp 78]) rfl rfl rfl (lt rfl) (hello_c (c := cB) (n := e.n % 8) hsB.inv) (fun v42 V2 H2 _ hR => ?_)
            obtain ⟨hV, rfl, rfl⟩ := hR; replace hV := hV.symm; subst hV
            refine Run.to_end ?_
            refine Ex.anyD (KnAll.cons (Kn.at 5 rfl) (KnAll.cons hk.of_nil KnAll.nil)) ?_
            refine RunD.pure (i := 10) rfl (by kernel_rfl) (by kernel_rfl) (by kernel_rfl) (fun _ _ _ h => h) (lt rfl) (KnAll.cons (Kn.at 5 rfl) (KnAll.cons hk.of_nil KnAll.nil)) (fun _ => (Y.move rfl)) ?_
            refine RunD.pure (i := 11) rfl (by kernel_rfl) (by kernel_rfl) (by kernel_rfl) (fun _ _ _ h => h) (lt rfl) (KnAll.cons (Kn.at 5 rfl) (KnAll.cons hk.of_nil KnAll.nil)) (fun _ => (Y.extract rfl rfl)) ?_
            refine RunD.pure (i := 12) rfl (by kernel_rfl) (by kernel_rfl) (by kernel_rfl) (fun _ _ _ h => h) (lt rfl) (KnAll.cons (Kn.at 5 rfl) (KnAll.cons hk.of_nil KnAll.nil)) (fun _ => (Y.extract rfl rfl)) ?_
            refine RunD.one (i := 13) (by kernel_rfl) rfl  ?_ 
            refine Run.alloc Lives_zo37 (lt rfl) (fun b43 => ?_)
            refine Run.to_end ?_
            refine Ex.anyD (KnAll.cons (Kn.at 6 rfl) (KnAll.cons hk.of_nil KnAll.nil)) ?_
            refine RunD.one (i := 14) (by kernel_rfl) rfl  ?_ 
            refine Run.store (s := [(b43, .cells #[.int .i64 ((Con.helloM cB (e.n % 8)).kind), .int .i64 ((Con.helloM cB (e.n % 8)).life), .int .i64 ((Con.helloM cB (e.n % 8)).seen), .int .i64 ((Con.helloM cB (e.n % 8)).xid), .int .i64 ((Con.helloM cB (e.n % 8)).state), .int .u32 ((Con.helloM cB (e.n % 8)).addr), .int .i64 ((Con.helloM cB (e.n % 8)).bind), .string ((Con.helloM cB (e.n % 8)).client), .int .i64 ((Con.helloM cB (e.n % 8)).pot), .int .i64 ((Con.helloM cB (e.n % 8)).at_), .bool ((Con.helloM cB (e.n % 8)).ok)] 37 (0, 0))]) rfl rfl Lives_sz37 (i := 0) rfl rfl (le rfl) rfl rfl ?_
            refine Run.to_end ?_
            refine Ex.anyD (KnAll.cons (Kn.at 6 rfl) (KnAll.cons hk.of_nil KnAll.nil)) ?_
            refine RunD.pure (i := 15) rfl (by kernel_rfl) (by kernel_rfl) (by kernel_rfl) (fun _ _ _ h => h) (lt rfl) (KnAll.cons (Kn.at 6 rfl) (KnAll.cons hk.of_nil KnAll.nil)) (fun _ => (Y.assign rfl)) ?_
            refine RunD.done (by kernel_rfl) ?_
            refine Ex.go ?_
            refine Tr.seq ?_
            refine Tr.seq ?_
            refine Tr.quiet Lives_mo (by kernel_rfl) ?_
            refine RunQ.val (lt rfl) (Y.move rfl) ?_
            refine RunQ.val (lt rfl) (Y.int rfl rfl rfl) ?_
            refine RunQ.val (lt rfl) (Y.move rfl) ?_
            refine RunQ.on rfl rfl rfl (by rw [hE]; rfl) ?_
            refine RunQ.val (lt rfl) (Y.fieldAddr rfl Lives_fo37_1) ?_
            refine RunQ.on rfl rfl rfl (by rw [hE]; rfl) ?_
            refine RunQ.val (lt rfl) (Y.load rfl Lives_ts3 (Kn.at 0 rfl) rfl) ?_
            refine RunQ.on rfl rfl rfl (by rw [hE]; rfl) ?_
            refine RunQ.val (lt rfl) (Y.move rfl) ?_
            refine RunQ.on rfl rfl rfl (by rw [hE]; rfl) ?_
            refine RunQ.val (lt rfl) (Y.idxArr rfl rfl Lives_al24 (by decide) (by decide)) ?_
            refine RunQ.on rfl rfl rfl (by rw [hE]; rfl) ?_
            refine RunQ.val (lt rfl) (Y.load rfl Lives_ts3 (Kn.at 5 rfl) rfl) ?_
            refine RunQ.on rfl rfl rfl (by rw [hE]; rfl) ?_
            refine RunQ.val (lt rfl) (Y.int rfl rfl rfl) ?_
            refine RunQ.val (lt rfl) (Y.pick_f rfl (by rw [hE]; rfl) rfl) ?_
            refine RunQ.to_end ?_
            refine Ex.go ?_
            refine Tr.cond_f rfl (by rw [(Con.hello_yes hE).2]; simp [Con.mark, hmB]) ?_
            refine Tr.to_end ?_
            refine Ex.go ?_
            refine Tr.anyL [(b7, .cells #[.slice pA nA kA, .slice pB nB kB] 62 (0, 0)), (b43, .cells #[.int .i64 ((Con.helloM cB (e.n % 8)).kind), .int .i64 ((Con.helloM cB (e.n % 8)).life), .int .i64 ((Con.helloM cB (e.n % 8)).seen), .int .i64 ((Con.helloM cB (e.n % 8)).xid), .int .i64 ((Con.helloM cB (e.n % 8)).state), .int .u32 ((Con.helloM cB (e.n % 8)).addr), .int .i64 ((Con.helloM cB (e.n % 8)).bind), .string ((Con.helloM cB (e.n % 8)).client), .int .i64 ((Con.helloM cB (e.n % 8)).pot), .int .i64 ((Con.helloM cB (e.n % 8)).at_), .bool ((Con.helloM cB (e.n % 8)).ok)] 37 (0, 0))] 8 Lives_mo ?_
            refine RunL.pure (i := 0) rfl (by kernel_rfl) (by kernel_rfl) (by kernel_rfl) (by kernel_rfl) (fun _ _ _ h => h) (lt rfl) (KnAll.cons (Kn.at 4 rfl) (KnAll.cons (Kn.at 0 rfl) KnAll.nil)) (fun _ => (Y.move rfl)) ?_
            refine RunL.pure (i := 1) rfl (by kernel_rfl) (by kernel_rfl) (by kernel_rfl) (by kernel_rfl) (fun _ _ _ h => h) (lt rfl) (KnAll.cons (Kn.at 4 rfl) (KnAll.cons (Kn.at 0 rfl) KnAll.nil)) (fun _ => (Y.move rfl)) ?_
            refine RunL.pure (i := 2) rfl (by kernel_rfl) (by kernel_rfl) (by kernel_rfl) (by kernel_rfl) (fun _ _ _ h => h) (lt rfl) (KnAll.cons (Kn.at 4 rfl) (KnAll.cons (Kn.at 0 rfl) KnAll.nil)) (fun _ => (Y.idxArr rfl rfl Lives_al62 (by decide) (by decide))) ?_
            refine RunL.take (i := 3) 0 rfl rfl (by kernel_rfl) (by kernel_rfl) (by kernel_rfl) (by kernel_rfl) (fun _ _ _ h => h) (lt rfl) (KnAll.cons (Kn.at 4 rfl) (KnAll.cons (Kn.at 0 rfl) KnAll.nil)) (fun _ => (Y.load rfl Lives_ts61 Kn.vk1 rfl)) ?_
            refine RunL.take (i := 4) 1 rfl rfl (by kernel_rfl) (by kernel_rfl) (by kernel_rfl) (by kernel_rfl) (fun _ _ _ h => h) (lt rfl) (KnAll.cons (Kn.at 4 rfl) (KnAll.cons (Kn.at 0 rfl) KnAll.nil)) (fun _ => (Y.loadAgg rfl Lives_ag37 Kn.vk1 rfl)) ?_
            refine RunL.one (i := 5) (by kernel_rfl) rfl  ?_ 
            refine Run.buildSlice (l := [(0, .tmp 96)]) (r := [.int .i64 ((Con.helloM cB (e.n % 8)).kind), .int .i64 ((Con.helloM cB (e.n % 8)).life), .int .i64 ((Con.helloM cB (e.n % 8)).seen), .int .i64 ((Con.helloM cB (e.n % 8)).xid), .int .i64 ((Con.helloM cB (e.n % 8)).state), .int .u32 ((Con.helloM cB (e.n % 8)).addr), .int .i64 ((Con.helloM cB (e.n % 8)).bind), .string ((Con.helloM cB (e.n % 8)).client), .int .i64 ((Con.helloM cB (e.n % 8)).pot), .int .i64 ((Con.helloM cB (e.n % 8)).at_), .bool ((Con.helloM cB (e.n % 8)).ok)]) Lives_es61 Lives_zo37 rfl (by decide) rfl rfl (by decide) (lt rfl) (fun b44 => ?_)
            refine Run.to_end ?_
            refine Ex.anyL (KnAll.cons (Kn.at 5 rfl) (KnAll.cons (Kn.at 1 rfl) KnAll.nil)) ?_
            refine RunL.one (i := 6) (by kernel_rfl) rfl  ?_ 
            refine Run.append (n := nB) (m := 1) (xs := xB) (ys := [.int .i64 ((Con.helloM cB (e.n % 8)).kind), .int .i64 ((Con.helloM cB (e.n % 8)).life), .int .i64 ((Con.helloM cB (e.n % 8)).seen), .int .i64 ((Con.helloM cB (e.n % 8)).xid), .int .i64 ((Con.helloM cB (e.n % 8)).state), .int .u32 ((Con.helloM cB (e.n % 8)).addr), .int .i64 ((Con.helloM cB (e.n % 8)).bind), .string ((Con.helloM cB (e.n % 8)).client), .int .i64 ((Con.helloM cB (e.n % 8)).pot), .int .i64 ((Con.helloM cB (e.n % 8)).at_), .bool ((Con.helloM cB (e.n % 8)).ok)]) rfl rfl Lives_es61 Lives_zi37 (by decide) (j := 3) rfl ownB (Src.of_rd Lives_es61 (Rd.one (Kn.at 0 rfl) rfl)) (by omega) (by omega) rfl (lt rfl) (fun v45 s46 ho47 hf => ?_)
            obtain ⟨p45, c45, rfl⟩ := hf
            refine Run.to_end ?_
            refine Ex.anyL (KnAll.cons (Kn.at 5 rfl) (KnAll.cons (Kn.at 1 rfl) KnAll.nil)) ?_
            refine RunL.pure (i := 7) rfl (by kernel_rfl) (by kernel_rfl) (by kernel_rfl) (by kernel_rfl) (fun _ _ _ h => h) (lt rfl) (KnAll.cons (Kn.at 5 rfl) (KnAll.cons (Kn.at 1 rfl) KnAll.nil)) (fun _ => (Y.idxArr rfl rfl Lives_al62 (by decide) (by decide))) ?_
            refine RunL.one (i := 8) (by kernel_rfl) rfl  ?_ 
            refine Run.store (s := [(b7, .cells #[.slice pA nA kA, .slice p45 (nB + 1) c45] 62 (0, 0))]) rfl rfl Lives_sz61 (i := 5) rfl rfl (le rfl) rfl rfl ?_
            refine Run.to_end ?_
            refine Ex.anyLz rfl ?_
            refine RunL.done (by kernel_rfl) ?_
            refine Ex.end_block ?_
            refine Ex.go ?_
            refine Tr.seq ?_
            refine Tr.quiet Lives_mo (by kernel_rfl) ?_
            have hokB : Con.Sd.ok 37 ⟨bB, (Con.helloC cB (e.n % 8)), mB, p45, (nB + 1), c45, s46, xB ++ [.int .i64 ((Con.helloM cB (e.n % 8)).kind), .int .i64 ((Con.helloM cB (e.n % 8)).life), .int .i64 ((Con.helloM cB (e.n % 8)).seen), .int .i64 ((Con.helloM cB (e.n % 8)).xid), .int .i64 ((Con.helloM cB (e.n % 8)).state), .int .u32 ((Con.helloM cB (e.n % 8)).addr), .int .i64 ((Con.helloM cB (e.n % 8)).bind), .string ((Con.helloM cB (e.n % 8)).client), .int .i64 ((Con.helloM cB (e.n % 8)).pot), .int .i64 ((Con.helloM cB (e.n % 8)).at_), .bool ((Con.helloM cB (e.n % 8)).ok)], lB ++ [Con.helloM cB (e.n % 8)], aB, dB⟩ ⟨bA, cA, mA, pA, nA, kA, qA, xA, lA, aA, dA⟩ (i + 1) := hsB.hello hE ho47 rfl rfl
            have hokA : Con.Sd.ok 37 ⟨bA, cA, mA, pA, nA, kA, qA, xA, lA, aA, dA⟩ ⟨bB, (Con.helloC cB (e.n % 8)), mB, p45, (nB + 1), c45, s46, xB ++ [.int .i64 ((Con.helloM cB (e.n % 8)).kind), .int .i64 ((Con.helloM cB (e.n % 8)).life), .int .i64 ((Con.helloM cB (e.n % 8)).seen), .int .i64 ((Con.helloM cB (e.n % 8)).xid), .int .i64 ((Con.helloM cB (e.n % 8)).state), .int .u32 ((Con.helloM cB (e.n % 8)).addr), .int .i64 ((Con.helloM cB (e.n % 8)).bind), .string ((Con.helloM cB (e.n % 8)).client), .int .i64 ((Con.helloM cB (e.n % 8)).pot), .int .i64 ((Con.helloM cB (e.n % 8)).at_), .bool ((Con.helloM cB (e.n % 8)).ok)], lB ++ [Con.helloM cB (e.n % 8)], aB, dB⟩ (i + 1) := hsA.rest (Int.le_refl _)
            refine RunQ.val (lt rfl) (Y.move rfl) ?_
            refine RunQ.val (lt rfl) (Y.idxArr rfl rfl Lives_al60 (by decide) (by decide)) ?_
            refine RunQ.val (lt rfl) (Y.load rfl Lives_ts46 (Kn.at 7 rfl) rfl) ?_
            refine RunQ.call0 (l := [.tmp 249]) rfl rfl rfl (lt rfl) (other_c (c := (Con.helloC cB (e.n % 8))) (Kn.at 9 rfl)) ?_
            refine RunQ.val (lt rfl) (Y.move rfl) ?_
            refine RunQ.val (lt rfl) (Y.int (r := .int .i64 0) rfl rfl rfl) ?_
            refine RunQ.val (lt rfl) (Y.idxArr rfl rfl Lives_al24 (by decide) (by decide)) ?_
            refine RunQ.val (lt rfl) (Y.load rfl Lives_ts3 (Kn.at 6 rfl) rfl) ?_
            refine RunQ.val (lt rfl) (Y.int rfl rfl rfl) ?_
            refine RunQ.to_end ?_
            refine Ex.go ?_
            refine Tr.cond_f rfl (decide_eq_false (Int.not_lt.2 hokB.known)) ?_
            refine Tr.to_end ?_
            refine Ex.end_block ?_
            refine Ex.go ?_
            refine Tr.region ?_
            refine Run.val (lt rfl) (Y.move rfl) ?_
            refine Run.val (lt rfl) (Y.add rfl rfl (by omega)) ?_
            refine Run.val (lt rfl) (Y.assign rfl) ?_
            refine Run.to_end ?_
            refine Ex.keep [2, 2, 2, 2, 2, 2, 2, 2] ?_
            exact Ex.round ((⟨bA, cA, mA, pA, nA, kA, qA, xA, lA, aA, dA⟩ : Con.Sd), (⟨bB, (Con.helloC cB (e.n % 8)), mB, p45, (nB + 1), c45, s46, xB ++ [.int .i64 ((Con.helloM cB (e.n % 8)).kind), .int .i64 ((Con.helloM cB (e.n % 8)).life), .int .i64 ((Con.helloM cB (e.n % 8)).seen), .int .i64 ((Con.helloM cB (e.n % 8)).xid), .int .i64 ((Con.helloM cB (e.n % 8)).state), .int .u32 ((Con.helloM cB (e.n % 8)).addr), .int .i64 ((Con.helloM cB (e.n % 8)).bind), .string ((Con.helloM cB (e.n % 8)).client), .int .i64 ((Con.helloM cB (e.n % 8)).pot), .int .i64 ((Con.helloM cB (e.n % 8)).at_), .bool ((Con.helloM cB (e.n % 8)).ok)], lB ++ [Con.helloM cB (e.n % 8)], aB, dB⟩ : Con.Sd), (now : Int), i + 1) ⟨hokA, hokB, ⟨by show (0 : Int) ≤ now; omega, by show now ≤ 3 * ((i + 1 : Nat) : Int); omega⟩, by show i + 1 ≤ 250; omega, by show i + 1 ≤ l.length; omega⟩ (by show l.length - (i + 1) < l.length - i; omega) rfl rfl (subB_cons (by first | rfl | exact congrArg (fun z => some (Value.int _ z)) (by omega)) (subB_cons (by first | rfl | exact congrArg (fun z => some (Value.int _ z)) (by omega)) (subB_cons (by first | rfl | exact congrArg (fun z => some (Value.int _ z)) (by omega)) (subB_cons (by first | rfl | exact congrArg (fun z => some (Value.int _ z)) (by omega)) (subB_cons (by first | rfl | exact congrArg (fun z => some (Value.int _ z)) (by omega)) (subB_cons (by first | rfl | exact congrArg (fun z => some (Value.int _ z)) (by omega)) (subB_cons (by first | rfl | exact congrArg (fun z => some (Value.int _ z)) (by omega)) (subB_nil _))))))))
          · refine Run.alloc Lives_zo37 (lt rfl) (fun b48 => ?_)
            refine Run.to_end ?_
            refine Ex.anyD (KnAll.cons (Kn.at 6 rfl) (KnAll.cons hk.of_nil KnAll.nil)) ?_
            refine RunD.one (i := 9) (by kernel_rfl) rfl  ?_ 
            refine Run.call [8] (l := [.tmp 72, .tmp 78]) rfl rfl rfl (lt rfl) (hello_c (c := cB) (n := e.n % 8) hsB.inv) (fun v49 V2 H2 _ hR => ?_)
            obtain ⟨hV, rfl, rfl⟩ := hR; replace hV := hV.symm; subst hV
            refine Run.to_end ?_
            refine Ex.anyD (KnAll.cons (Kn.at 6 rfl) (KnAll.cons hk.of_nil KnAll.nil)) ?_
            refine RunD.pure (i := 10) rfl (by kernel_rfl) (by kernel_rfl) (by kernel_rfl) (fun _ _ _ h => h) (lt rfl) (KnAll.cons (Kn.at 6 rfl) (KnAll.cons hk.of_nil KnAll.nil)) (fun _ => (Y.move rfl)) ?_
            refine RunD.pure (i := 11) rfl (by kernel_rfl) (by kernel_rfl) (by kernel_rfl) (fun _ _ _ h => h) (lt rfl) (KnAll.cons (Kn.at 6 rfl) (KnAll.cons hk.of_nil KnAll.nil)) (fun _ => (Y.extract rfl rfl)) ?_
            refine RunD.pure (i := 12) rfl (by kernel_rfl) (by kernel_rfl) (by kernel_rfl) (fun _ _ _ h => h) (lt rfl) (KnAll.cons (Kn.at 6 rfl) (KnAll.cons hk.of_nil KnAll.nil)) (fun _ => (Y.extract rfl rfl)) ?_
            refine RunD.one (i := 14) (by kernel_rfl) rfl  ?_ 
            refine Run.store (s := [(b48, .cells #[.int .i64 ((Con.helloM cB (e.n % 8)).kind), .int .i64 ((Con.helloM cB (e.n % 8)).life), .int .i64 ((Con.helloM cB (e.n % 8)).seen), .int .i64 ((Con.helloM cB (e.n % 8)).xid), .int .i64 ((Con.helloM cB (e.n % 8)).state), .int .u32 ((Con.helloM cB (e.n % 8)).addr), .int .i64 ((Con.helloM cB (e.n % 8)).bind), .string ((Con.helloM cB (e.n % 8)).client), .int .i64 ((Con.helloM cB (e.n % 8)).pot), .int .i64 ((Con.helloM cB (e.n % 8)).at_), .bool ((Con.helloM cB (e.n % 8)).ok)] 37 (0, 0))]) rfl rfl Lives_sz37 (i := 0) rfl rfl (le rfl) rfl rfl ?_
            refine Run.to_end ?_
            refine Ex.anyD (KnAll.cons (Kn.at 6 rfl) (KnAll.cons hk.of_nil KnAll.nil)) ?_
            refine RunD.pure (i := 15) rfl (by kernel_rfl) (by kernel_rfl) (by kernel_rfl) (fun _ _ _ h => h) (lt rfl) (KnAll.cons (Kn.at 6 rfl) (KnAll.cons hk.of_nil KnAll.nil)) (fun _ => (Y.assign rfl)) ?_
            refine RunD.done (by kernel_rfl) ?_
            refine Ex.go ?_
            refine Tr.seq ?_
            refine Tr.seq ?_
            refine Tr.quiet Lives_mo (by kernel_rfl) ?_
            refine RunQ.val (lt rfl) (Y.move rfl) ?_
            refine RunQ.val (lt rfl) (Y.int rfl rfl rfl) ?_
            refine RunQ.val (lt rfl) (Y.move rfl) ?_
            refine RunQ.on rfl rfl rfl (by rw [hE]; rfl) ?_
            refine RunQ.val (lt rfl) (Y.fieldAddr rfl Lives_fo37_1) ?_
            refine RunQ.on rfl rfl rfl (by rw [hE]; rfl) ?_
            refine RunQ.val (lt rfl) (Y.load rfl Lives_ts3 (Kn.at 0 rfl) rfl) ?_
            refine RunQ.on rfl rfl rfl (by rw [hE]; rfl) ?_
            refine RunQ.val (lt rfl) (Y.move rfl) ?_
            refine RunQ.on rfl rfl rfl (by rw [hE]; rfl) ?_
            refine RunQ.val (lt rfl) (Y.idxArr rfl rfl Lives_al24 (by decide) (by decide)) ?_
            refine RunQ.on rfl rfl rfl (by rw [hE]; rfl) ?_
            refine RunQ.val (lt rfl) (Y.load rfl Lives_ts3 (Kn.at 5 rfl) rfl) ?_
            refine RunQ.on rfl rfl rfl (by rw [hE]; rfl) ?_
            refine RunQ.val (lt rfl) (Y.int rfl rfl rfl) ?_
            refine RunQ.val (lt rfl) (Y.pick_f rfl (by rw [hE]; rfl) rfl) ?_
            refine RunQ.to_end ?_
            refine Ex.go ?_
            refine Tr.cond_f rfl (by rw [(Con.hello_yes hE).2]; simp [Con.mark, hmB]) ?_
            refine Tr.to_end ?_
            refine Ex.go ?_
            refine Tr.anyL [(b7, .cells #[.slice pA nA kA, .slice pB nB kB] 62 (0, 0)), (b48, .cells #[.int .i64 ((Con.helloM cB (e.n % 8)).kind), .int .i64 ((Con.helloM cB (e.n % 8)).life), .int .i64 ((Con.helloM cB (e.n % 8)).seen), .int .i64 ((Con.helloM cB (e.n % 8)).xid), .int .i64 ((Con.helloM cB (e.n % 8)).state), .int .u32 ((Con.helloM cB (e.n % 8)).addr), .int .i64 ((Con.helloM cB (e.n % 8)).bind), .string ((Con.helloM cB (e.n % 8)).client), .int .i64 ((Con.helloM cB (e.n % 8)).pot), .int .i64 ((Con.helloM cB (e.n % 8)).at_), .bool ((Con.helloM cB (e.n % 8)).ok)] 37 (0, 0))] 8 Lives_mo ?_
            refine RunL.pure (i := 0) rfl (by kernel_rfl) (by kernel_rfl) (by kernel_rfl) (by kernel_rfl) (fun _ _ _ h => h) (lt rfl) (KnAll.cons (Kn.at 4 rfl) (KnAll.cons (Kn.at 0 rfl) KnAll.nil)) (fun _ => (Y.move rfl)) ?_
            refine RunL.pure (i := 1) rfl (by kernel_rfl) (by kernel_rfl) (by kernel_rfl) (by kernel_rfl) (fun _ _ _ h => h) (lt rfl) (KnAll.cons (Kn.at 4 rfl) (KnAll.cons (Kn.at 0 rfl) KnAll.nil)) (fun _ => (Y.move rfl)) ?_
            refine RunL.pure (i := 2) rfl (by kernel_rfl) (by kernel_rfl) (by kernel_rfl) (by kernel_rfl) (fun _ _ _ h => h) (lt rfl) (KnAll.cons (Kn.at 4 rfl) (KnAll.cons (Kn.at 0 rfl) KnAll.nil)) (fun _ => (Y.idxArr rfl rfl Lives_al62 (by decide) (by decide))) ?_
            refine RunL.take (i := 3) 0 rfl rfl (by kernel_rfl) (by kernel_rfl) (by kernel_rfl) (by kernel_rfl) (fun _ _ _ h => h) (lt rfl) (KnAll.cons (Kn.at 4 rfl) (KnAll.cons (Kn.at 0 rfl) KnAll.nil)) (fun _ => (Y.load rfl Lives_ts61 Kn.vk1 rfl)) ?_
            refine RunL.take (i := 4) 1 rfl rfl (by kernel_rfl) (by kernel_rfl) (by kernel_rfl) (by kernel_rfl) (fun _ _ _ h => h) (lt rfl) (KnAll.cons (Kn.at 4 rfl) (KnAll.cons (Kn.at 0 rfl) KnAll.nil)) (fun _ => (Y.loadAgg rfl Lives_ag37 Kn.vk1 rfl)) ?_
            refine RunL.one (i := 5) (by kernel_rfl) rfl  ?_ 
            refine Run.buildSlice (l := [(0, .tmp 96)]) (r := [.int .i64 ((Con.helloM cB (e.n % 8)).kind), .int .i64 ((Con.helloM cB (e.n % 8)).life), .int .i64 ((Con.helloM cB (e.n % 8)).seen), .int .i64 ((Con.helloM cB (e.n % 8)).xid), .int .i64 ((Con.helloM cB (e.n % 8)).state), .int .u32 ((Con.helloM cB (e.n % 8)).addr), .int .i64 ((Con.helloM cB (e.n % 8)).bind), .string ((Con.helloM cB (e.n % 8)).client), .int .i64 ((Con.helloM cB (e.n % 8)).pot), .int .i64 ((Con.helloM cB (e.n % 8)).at_), .bool ((Con.helloM cB (e.n % 8)).ok)]) Lives_es61 Lives_zo37 rfl (by decide) rfl rfl (by decide) (lt rfl) (fun b50 => ?_)
            refine Run.to_end ?_
            refine Ex.anyL (KnAll.cons (Kn.at 5 rfl) (KnAll.cons (Kn.at 1 rfl) KnAll.nil)) ?_
            refine RunL.one (i := 6) (by kernel_rfl) rfl  ?_ 
            refine Run.append (n := nB) (m := 1) (xs := xB) (ys := [.int .i64 ((Con.helloM cB (e.n % 8)).kind), .int .i64 ((Con.helloM cB (e.n % 8)).life), .int .i64 ((Con.helloM cB (e.n % 8)).seen), .int .i64 ((Con.helloM cB (e.n % 8)).xid), .int .i64 ((Con.helloM cB (e.n % 8)).state), .int .u32 ((Con.helloM cB (e.n % 8)).addr), .int .i64 ((Con.helloM cB (e.n % 8)).bind), .string ((Con.helloM cB (e.n % 8)).client), .int .i64 ((Con.helloM cB (e.n % 8)).pot), .int .i64 ((Con.helloM cB (e.n % 8)).at_), .bool ((Con.helloM cB (e.n % 8)).ok)]) rfl rfl Lives_es61 Lives_zi37 (by decide) (j := 3) rfl ownB (Src.of_rd Lives_es61 (Rd.one (Kn.at 0 rfl) rfl)) (by omega) (by omega) rfl (lt rfl) (fun v51 s52 ho53 hf => ?_)
            obtain ⟨p51, c51, rfl⟩ := hf
            refine Run.to_end ?_
            refine Ex.anyL (KnAll.cons (Kn.at 5 rfl) (KnAll.cons (Kn.at 1 rfl) KnAll.nil)) ?_
            refine RunL.pure (i := 7) rfl (by kernel_rfl) (by kernel_rfl) (by kernel_rfl) (by kernel_rfl) (fun _ _ _ h => h) (lt rfl) (KnAll.cons (Kn.at 5 rfl) (KnAll.cons (Kn.at 1 rfl) KnAll.nil)) (fun _ => (Y.idxArr rfl rfl Lives_al62 (by decide) (by decide))) ?_
            refine RunL.one (i := 8) (by kernel_rfl) rfl  ?_ 
            refine Run.store (s := [(b7, .cells #[.slice pA nA kA, .slice p51 (nB + 1) c51] 62 (0, 0))]) rfl rfl Lives_sz61 (i := 5) rfl rfl (le rfl) rfl rfl ?_
            refine Run.to_end ?_
            refine Ex.anyLz rfl ?_
            refine RunL.done (by kernel_rfl) ?_
            refine Ex.end_block ?_
            refine Ex.go ?_
            refine Tr.seq ?_
            refine Tr.quiet Lives_mo (by kernel_rfl) ?_
            have hokB : Con.Sd.ok 37 ⟨bB, (Con.helloC cB (e.n % 8)), mB, p51, (nB + 1), c51, s52, xB ++ [.int .i64 ((Con.helloM cB (e.n % 8)).kind), .int .i64 ((Con.helloM cB (e.n % 8)).life), .int .i64 ((Con.helloM cB (e.n % 8)).seen), .int .i64 ((Con.helloM cB (e.n % 8)).xid), .int .i64 ((Con.helloM cB (e.n % 8)).state), .int .u32 ((Con.helloM cB (e.n % 8)).addr), .int .i64 ((Con.helloM cB (e.n % 8)).bind), .string ((Con.helloM cB (e.n % 8)).client), .int .i64 ((Con.helloM cB (e.n % 8)).pot), .int .i64 ((Con.helloM cB (e.n % 8)).at_), .bool ((Con.helloM cB (e.n % 8)).ok)], lB ++ [Con.helloM cB (e.n % 8)], aB, dB⟩ ⟨bA, cA, mA, pA, nA, kA, qA, xA, lA, aA, dA⟩ (i + 1) := hsB.hello hE ho53 rfl rfl
            have hokA : Con.Sd.ok 37 ⟨bA, cA, mA, pA, nA, kA, qA, xA, lA, aA, dA⟩ ⟨bB, (Con.helloC cB (e.n % 8)), mB, p51, (nB + 1), c51, s52, xB ++ [.int .i64 ((Con.helloM cB (e.n % 8)).kind), .int .i64 ((Con.helloM cB (e.n % 8)).life), .int .i64 ((Con.helloM cB (e.n % 8)).seen), .int .i64 ((Con.helloM cB (e.n % 8)).xid), .int .i64 ((Con.helloM cB (e.n % 8)).state), .int .u32 ((Con.helloM cB (e.n % 8)).addr), .int .i64 ((Con.helloM cB (e.n % 8)).bind), .string ((Con.helloM cB (e.n % 8)).client), .int .i64 ((Con.helloM cB (e.n % 8)).pot), .int .i64 ((Con.helloM cB (e.n % 8)).at_), .bool ((Con.helloM cB (e.n % 8)).ok)], lB ++ [Con.helloM cB (e.n % 8)], aB, dB⟩ (i + 1) := hsA.rest (Int.le_refl _)
            refine RunQ.val (lt rfl) (Y.move rfl) ?_
            refine RunQ.val (lt rfl) (Y.idxArr rfl rfl Lives_al60 (by decide) (by decide)) ?_
            refine RunQ.val (lt rfl) (Y.load rfl Lives_ts46 (Kn.at 7 rfl) rfl) ?_
            refine RunQ.call0 (l := [.tmp 249]) rfl rfl rfl (lt rfl) (other_c (c := (Con.helloC cB (e.n % 8))) (Kn.at 9 rfl)) ?_
            refine RunQ.val (lt rfl) (Y.move rfl) ?_
            refine RunQ.val (lt rfl) (Y.int (r := .int .i64 0) rfl rfl rfl) ?_
            refine RunQ.val (lt rfl) (Y.idxArr rfl rfl Lives_al24 (by decide) (by decide)) ?_
            refine RunQ.val (lt rfl) (Y.load rfl Lives_ts3 (Kn.at 6 rfl) rfl) ?_
            refine RunQ.val (lt rfl) (Y.int rfl rfl rfl) ?_
            refine RunQ.to_end ?_
            refine Ex.go ?_
            refine Tr.cond_f rfl (decide_eq_false (Int.not_lt.2 hokB.known)) ?_
            refine Tr.to_end ?_
            refine Ex.end_block ?_
            refine Ex.go ?_
            refine Tr.region ?_
            refine Run.val (lt rfl) (Y.move rfl) ?_
            refine Run.val (lt rfl) (Y.add rfl rfl (by omega)) ?_
            refine Run.val (lt rfl) (Y.assign rfl) ?_
            refine Run.to_end ?_
            refine Ex.keep [2, 2, 2, 2, 2, 2, 2, 2] ?_
            exact Ex.round ((⟨bA, cA, mA, pA, nA, kA, qA, xA, lA, aA, dA⟩ : Con.Sd), (⟨bB, (Con.helloC cB (e.n % 8)), mB, p51, (nB + 1), c51, s52, xB ++ [.int .i64 ((Con.helloM cB (e.n % 8)).kind), .int .i64 ((Con.helloM cB (e.n % 8)).life), .int .i64 ((Con.helloM cB (e.n % 8)).seen), .int .i64 ((Con.helloM cB (e.n % 8)).xid), .int .i64 ((Con.helloM cB (e.n % 8)).state), .int .u32 ((Con.helloM cB (e.n % 8)).addr), .int .i64 ((Con.helloM cB (e.n % 8)).bind), .string ((Con.helloM cB (e.n % 8)).client), .int .i64 ((Con.helloM cB (e.n % 8)).pot), .int .i64 ((Con.helloM cB (e.n % 8)).at_), .bool ((Con.helloM cB (e.n % 8)).ok)], lB ++ [Con.helloM cB (e.n % 8)], aB, dB⟩ : Con.Sd), (now : Int), i + 1) ⟨hokA, hokB, ⟨by show (0 : Int) ≤ now; omega, by show now ≤ 3 * ((i + 1 : Nat) : Int); omega⟩, by show i + 1 ≤ 250; omega, by show i + 1 ≤ l.length; omega⟩ (by show l.length - (i + 1) < l.length - i; omega) rfl rfl (subB_cons (by first | rfl | exact congrArg (fun z => some (Value.int _ z)) (by omega)) (subB_cons (by first | rfl | exact congrArg (fun z => some (Value.int _ z)) (by omega)) (subB_cons (by first | rfl | exact congrArg (fun z => some (Value.int _ z)) (by omega)) (subB_cons (by first | rfl | exact congrArg (fun z => some (Value.int _ z)) (by omega)) (subB_cons (by first | rfl | exact congrArg (fun z => some (Value.int _ z)) (by omega)) (subB_cons (by first | rfl | exact congrArg (fun z => some (Value.int _ z)) (by omega)) (subB_cons (by first | rfl | exact congrArg (fun z => some (Value.int _ z)) (by omega)) (subB_nil _))))))))
        · have g41 := h41
          try simp only [kb] at g41
          refine Tr.cond_f rfl h41 ?_
          refine Tr.seq ?_
          refine Tr.region ?_
          refine Run.val (lt rfl) (Y.int rfl rfl rfl) ?_
          refine Run.val (lt rfl) (Y.assign rfl) ?_
          refine Run.to_end ?_
          refine Ex.go ?_
          rcases Bool.eq_false_or_eq_true (e.do_ == 1) with h54 | h54
          · have g54 := h54
            try simp only [kb] at g54
            refine Tr.cond_t rfl h54 ?_
            refine Tr.anyL [(b7, .cells #[.slice pA nA kA, .slice pB nB kB] 62 (0, 0)), (b5, .cells #[.pointer (some ⟨bA, 0, none⟩), .pointer (some ⟨bB, 0, none⟩)] 60 (0, 0))] 12 Lives_mo ?_
            refine RunL.pure (i := 0) rfl (by kernel_rfl) (by kernel_rfl) (by kernel_rfl) (by kernel_rfl) (fun _ _ _ h => h) (lt rfl) (KnAll.cons (Kn.at 3 rfl) (KnAll.cons (Kn.at 5 rfl) KnAll.nil)) (fun _ => (Y.move rfl)) ?_
            refine RunL.pure (i := 1) rfl (by kernel_rfl) (by kernel_rfl) (by kernel_rfl) (by kernel_rfl) (fun _ _ _ h => h) (lt rfl) (KnAll.cons (Kn.at 3 rfl) (KnAll.cons (Kn.at 5 rfl) KnAll.nil)) (fun _ => (Y.move rfl)) ?_
            refine RunL.pure (i := 2) rfl (by kernel_rfl) (by kernel_rfl) (by kernel_rfl) (by kernel_rfl) (fun _ _ _ h => h) (lt rfl) (KnAll.cons (Kn.at 3 rfl) (KnAll.cons (Kn.at 5 rfl) KnAll.nil)) (fun _ => (Y.idxArr rfl rfl Lives_al62 (by decide) (by decide))) ?_
            refine RunL.take (i := 3) 0 rfl rfl (by kernel_rfl) (by kernel_rfl) (by kernel_rfl) (by kernel_rfl) (fun _ _ _ h => h) (lt rfl) (KnAll.cons (Kn.at 3 rfl) (KnAll.cons (Kn.at 5 rfl) KnAll.nil)) (fun _ => (Y.load rfl Lives_ts61 Kn.vk1 rfl)) ?_
            refine RunL.pure (i := 4) rfl (by kernel_rfl) (by kernel_rfl) (by kernel_rfl) (by kernel_rfl) (fun _ _ _ h => h) (lt rfl) (KnAll.cons (Kn.at 3 rfl) (KnAll.cons (Kn.at 5 rfl) KnAll.nil)) (fun _ => (Y.move rfl)) ?_
            refine RunL.pure (i := 5) rfl (by kernel_rfl) (by kernel_rfl) (by kernel_rfl) (by kernel_rfl) (fun _ _ _ h => h) (lt rfl) (KnAll.cons (Kn.at 3 rfl) (KnAll.cons (Kn.at 5 rfl) KnAll.nil)) (fun _ => (Y.idxArr rfl rfl Lives_al60 (by decide) (by decide))) ?_
            refine RunL.take (i := 6) 1 rfl rfl (by kernel_rfl) (by kernel_rfl) (by kernel_rfl) (by kernel_rfl) (fun _ _ _ h => h) (lt rfl) (KnAll.cons (Kn.at 3 rfl) (KnAll.cons (Kn.at 5 rfl) KnAll.nil)) (fun _ => (Y.load rfl Lives_ts46 Kn.vk1 rfl)) ?_
            refine RunL.pure (i := 7) rfl (by kernel_rfl) (by kernel_rfl) (by kernel_rfl) (by kernel_rfl) (fun _ _ _ h => h) (lt rfl) (KnAll.cons (Kn.at 3 rfl) (KnAll.cons (Kn.at 5 rfl) KnAll.nil)) (fun _ => (Y.buildS (l := [(0, .const (.int .i64 4))]) Lives_zo37 Lives_pl37 rfl rfl)) ?_
            refine RunL.one (i := 8) (by kernel_rfl) rfl  ?_ 
            refine Run.call0 (l := [.tmp 108, .tmp 109]) rfl rfl rfl (lt rfl) (mark_c (c := cB) (m := (⟨4, 0, 0, 0, 0, 0, 0, ⟨#[]⟩, 0, 0, false⟩ : Msg)) (Kn.at 7 rfl)) ?_
            refine Run.to_end ?_
            refine Ex.anyL (KnAll.cons (Kn.at 3 rfl) (KnAll.cons (Kn.at 5 rfl) KnAll.nil)) ?_
            refine RunL.one (i := 9) (by kernel_rfl) rfl  ?_ 
            refine Run.buildSlice (l := [(0, .tmp 110)]) (r := [.int .i64 4, .int .i64 cB.mine, .int .i64 cB.known, .int .i64 0, .int .i64 0, .int .u32 0, .int .i64 0, .string ⟨#[]⟩, .int .i64 0, .int .i64 0, .bool false]) Lives_es61 Lives_zo37 rfl (by decide) rfl rfl (by decide) (lt rfl) (fun b55 => ?_)
            refine Run.to_end ?_
            refine Ex.anyL (KnAll.cons (Kn.at 4 rfl) (KnAll.cons (Kn.at 6 rfl) KnAll.nil)) ?_
            refine RunL.one (i := 10) (by kernel_rfl) rfl  ?_ 
            refine Run.append (n := nB) (m := 1) (xs := xB) (ys := [.int .i64 4, .int .i64 cB.mine, .int .i64 cB.known, .int .i64 0, .int .i64 0, .int .u32 0, .int .i64 0, .string ⟨#[]⟩, .int .i64 0, .int .i64 0, .bool false]) rfl rfl Lives_es61 Lives_zi37 (by decide) (j := 2) rfl ownB (Src.of_rd Lives_es61 (Rd.one (Kn.at 0 rfl) rfl)) (by omega) (by omega) rfl (lt rfl) (fun v56 s57 ho58 hf => ?_)
            obtain ⟨p56, c56, rfl⟩ := hf
            refine Run.to_end ?_
            refine Ex.anyL (KnAll.cons (Kn.at 4 rfl) (KnAll.cons (Kn.at 6 rfl) KnAll.nil)) ?_
            refine RunL.pure (i := 11) rfl (by kernel_rfl) (by kernel_rfl) (by kernel_rfl) (by kernel_rfl) (fun _ _ _ h => h) (lt rfl) (KnAll.cons (Kn.at 4 rfl) (KnAll.cons (Kn.at 6 rfl) KnAll.nil)) (fun _ => (Y.idxArr rfl rfl Lives_al62 (by decide) (by decide))) ?_
            refine RunL.one (i := 12) (by kernel_rfl) rfl  ?_ 
            refine Run.store (s := [(b7, .cells #[.slice pA nA kA, .slice p56 (nB + 1) c56] 62 (0, 0))]) rfl rfl Lives_sz61 (i := 4) rfl rfl (le rfl) rfl rfl ?_
            refine Run.to_end ?_
            refine Ex.anyLz rfl ?_
            refine RunL.done (by kernel_rfl) ?_
            refine Ex.end_block ?_
            refine Ex.go ?_
            refine Tr.seq ?_
            refine Tr.quiet Lives_mo (by kernel_rfl) ?_
            have hokB : Con.Sd.ok 37 ⟨bB, cB, mB, p56, (nB + 1), c56, s57, xB ++ [.int .i64 4, .int .i64 cB.mine, .int .i64 cB.known, .int .i64 0, .int .i64 0, .int .u32 0, .int .i64 0, .string ⟨#[]⟩, .int .i64 0, .int .i64 0, .bool false], lB ++ [Con.mark cB ⟨4, 0, 0, 0, 0, 0, 0, ⟨#[]⟩, 0, 0, false⟩], aB, dB⟩ ⟨bA, cA, mA, pA, nA, kA, qA, xA, lA, aA, dA⟩ (i + 1) := hsB.mark ⟨4, 0, 0, 0, 0, 0, 0, ⟨#[]⟩, 0, 0, false⟩ ho58 rfl rfl
            have hokA : Con.Sd.ok 37 ⟨bA, cA, mA, pA, nA, kA, qA, xA, lA, aA, dA⟩ ⟨bB, cB, mB, p56, (nB + 1), c56, s57, xB ++ [.int .i64 4, .int .i64 cB.mine, .int .i64 cB.known, .int .i64 0, .int .i64 0, .int .u32 0, .int .i64 0, .string ⟨#[]⟩, .int .i64 0, .int .i64 0, .bool false], lB ++ [Con.mark cB ⟨4, 0, 0, 0, 0, 0, 0, ⟨#[]⟩, 0, 0, false⟩], aB, dB⟩ (i + 1) := hsA.rest (Int.le_refl _)
            refine RunQ.val (lt rfl) (Y.move rfl) ?_
            refine RunQ.val (lt rfl) (Y.idxArr rfl rfl Lives_al60 (by decide) (by decide)) ?_
            refine RunQ.val (lt rfl) (Y.load rfl Lives_ts46 (Kn.at 6 rfl) rfl) ?_
            refine RunQ.call0 (l := [.tmp 249]) rfl rfl rfl (lt rfl) (other_c (c := cB) (Kn.at 8 rfl)) ?_
            refine RunQ.val (lt rfl) (Y.move rfl) ?_
            refine RunQ.val (lt rfl) (Y.int (r := .int .i64 0) rfl rfl rfl) ?_
            refine RunQ.val (lt rfl) (Y.idxArr rfl rfl Lives_al24 (by decide) (by decide)) ?_
            refine RunQ.val (lt rfl) (Y.load rfl Lives_ts3 (Kn.at 5 rfl) rfl) ?_
            refine RunQ.val (lt rfl) (Y.int rfl rfl rfl) ?_
            refine RunQ.to_end ?_
            refine Ex.go ?_
            refine Tr.cond_f rfl (decide_eq_false (Int.not_lt.2 hokB.known)) ?_
            refine Tr.to_end ?_
            refine Ex.end_block ?_
            refine Ex.go ?_
            refine Tr.region ?_
            refine Run.val (lt rfl) (Y.move rfl) ?_
            refine Run.val (lt rfl) (Y.add rfl rfl (by omega)) ?_
            refine Run.val (lt rfl) (Y.assign rfl) ?_
            refine Run.to_end ?_
            refine Ex.keep [1, 1, 1, 1, 1, 1, 1, 1] ?_
            exact Ex.round ((⟨bA, cA, mA, pA, nA, kA, qA, xA, lA, aA, dA⟩ : Con.Sd), (⟨bB, cB, mB, p56, (nB + 1), c56, s57, xB ++ [.int .i64 4, .int .i64 cB.mine, .int .i64 cB.known, .int .i64 0, .int .i64 0, .int .u32 0, .int .i64 0, .string ⟨#[]⟩, .int .i64 0, .int .i64 0, .bool false], lB ++ [Con.mark cB ⟨4, 0, 0, 0, 0, 0, 0, ⟨#[]⟩, 0, 0, false⟩], aB, dB⟩ : Con.Sd), (now : Int), i + 1) ⟨hokA, hokB, ⟨by show (0 : Int) ≤ now; omega, by show now ≤ 3 * ((i + 1 : Nat) : Int); omega⟩, by show i + 1 ≤ 250; omega, by show i + 1 ≤ l.length; omega⟩ (by show l.length - (i + 1) < l.length - i; omega) rfl rfl (subB_cons (by first | rfl | exact congrArg (fun z => some (Value.int _ z)) (by omega)) (subB_cons (by first | rfl | exact congrArg (fun z => some (Value.int _ z)) (by omega)) (subB_cons (by first | rfl | exact congrArg (fun z => some (Value.int _ z)) (by omega)) (subB_cons (by first | rfl | exact congrArg (fun z => some (Value.int _ z)) (by omega)) (subB_cons (by first | rfl | exact congrArg (fun z => some (Value.int _ z)) (by omega)) (subB_cons (by first | rfl | exact congrArg (fun z => some (Value.int _ z)) (by omega)) (subB_cons (by first | rfl | exact congrArg (fun z => some (Value.int _ z)) (by omega)) (subB_nil _))))))))
          · have g54 := h54
            try simp only [kb] at g54
            refine Tr.cond_f rfl h54 ?_
            refine Tr.seq ?_
            refine Tr.region ?_
            refine Run.val (lt rfl) (Y.int rfl rfl rfl) ?_
            refine Run.val (lt rfl) (Y.assign rfl) ?_
            refine Run.to_end ?_
            refine Ex.go ?_
            rcases Bool.eq_false_or_eq_true (e.do_ == 2) with h59 | h59
            · have g59 := h59
              try simp only [kb] at g59
              refine Tr.cond_t rfl h59 ?_
              refine Tr.seq ?_
              refine Tr.seq ?_
              refine Tr.region ?_
              refine Run.val (lt rfl) (Y.move rfl) ?_
              refine Run.val (lt rfl) (Y.int (r := .int .i64 0) rfl rfl rfl) ?_
              refine Run.val (lt rfl) (Y.idxArr rfl rfl Lives_al62 (by decide) (by decide)) ?_
              refine Run.val (lt rfl) (Y.load rfl Lives_ts61 (Kn.at 3 rfl) rfl) ?_
              refine Run.val (lt rfl) (Y.lenSl rfl Lives_es61) ?_
              refine Run.val (lt rfl) (Y.int rfl rfl rfl) ?_
              refine Run.to_end ?_
              refine Ex.go ?_
              rcases Bool.eq_false_or_eq_true (((nA : Nat) : Int) == 0) with h60 | h60
              · have g60 := h60
                try simp only [kb] at g60
                refine Tr.cond_t rfl h60 ?_
                refine Tr.to_exit ?_
                refine Ex.exit_then ?_
                refine Ex.exit_out rfl ?_
                refine Ex.exit_then ?_
                refine Ex.exit_in ?_
                refine Ex.go ?_
                refine Tr.region ?_
                refine Run.val (lt rfl) (Y.move rfl) ?_
                refine Run.val (lt rfl) (Y.add rfl rfl (by omega)) ?_
                refine Run.val (lt rfl) (Y.assign rfl) ?_
                refine Run.to_end ?_
                have hokB : Con.Sd.ok 37 ⟨bB, cB, mB, pB, nB, kB, qB, xB, lB, aB, dB⟩ ⟨bA, cA, mA, pA, nA, kA, qA, xA, lA, aA, dA⟩ (i + 1) := hsB.rest (Int.le_refl _)
                have hokA : Con.Sd.ok 37 ⟨bA, cA, mA, pA, nA, kA, qA, xA, lA, aA, dA⟩ ⟨bB, cB, mB, pB, nB, kB, qB, xB, lB, aB, dB⟩ (i + 1) := hsA.rest (Int.le_refl _)
                refine Ex.keep [0, 0, 0, 0, 0, 0, 0, 0] ?_
                exact Ex.round ((⟨bA, cA, mA, pA, nA, kA, qA, xA, lA, aA, dA⟩ : Con.Sd), (⟨bB, cB, mB, pB, nB, kB, qB, xB, lB, aB, dB⟩ : Con.Sd), (now : Int), i + 1) ⟨hokA, hokB, ⟨by show (0 : Int) ≤ now; omega, by show now ≤ 3 * ((i + 1 : Nat) : Int); omega⟩, by show i + 1 ≤ 250; omega, by show i + 1 ≤ l.length; omega⟩ (by show l.length - (i + 1) < l.length - i; omega) rfl rfl (subB_cons (by first | rfl | exact congrArg (fun z => some (Value.int _ z)) (by omega)) (subB_cons (by first | rfl | exact congrArg (fun z => some (Value.int _ z)) (by omega)) (subB_cons (by first | rfl | exact congrArg (fun z => some (Value.int _ z)) (by omega)) (subB_cons (by first | rfl | exact congrArg (fun z => some (Value.int _ z)) (by omega)) (subB_cons (by first | rfl | exact congrArg (fun z => some (Value.int _ z)) (by omega)) (subB_cons (by first | rfl | exact congrArg (fun z => some (Value.int _ z)) (by omega)) (subB_cons (by first | rfl | exact congrArg (fun z => some (Value.int _ z)) (by omega)) (subB_nil _))))))))
              · have g60 := h60
                try simp only [kb] at g60
                obtain ⟨bq, cap, cur, hv2, hq, _, _, _, hcs2⟩ : ∃ b cap cur, Value.slice pA nA kA = .slice (some ⟨b, 0, none⟩) nA cap ∧ qA = [(b, .cells cur 37 (0, 0))] ∧ nA ≤ cap ∧ cap ≤ maxLen ∧ cur.size = cap * 11 ∧ ∀ j, j < nA * 11 → cur[j]? = xA[j]? := by
                  rcases ownA.2 with ⟨_, h, _⟩ | h
                  · exact absurd h (by omega)
                  · exact h
                obtain ⟨rfl, rfl⟩ : pA = some ⟨bq, 0, none⟩ ∧ kA = cap := by cases hv2; exact ⟨rfl, rfl⟩
                subst hq
                obtain ⟨j, hj, hjl⟩ := pick_some (n := nA) (a := e.n % 1024) (by omega) (by omega)
                have hxA : xA = (lA.map Msg.rowc).flatten := hsA.flat
                have hlA : nA = lA.length := hsA.len
                have hrowq := row_at (f := Msg.rowc) (z := 11) (off := 0) (n := nA) Msg.rowc_len (cs := cur) (l := lA) (fun j hj => by rw [Nat.zero_add, hcs2 j hj, hxA]) (i := j) (by omega) (by omega) Msg.zero
                obtain ⟨m, hm, hmem⟩ : ∃ m, lA.getD j Msg.zero = m ∧ m ∈ lA := ⟨_, rfl, getD_mem (by omega) _⟩
                rw [hm] at hrowq
                have hml : m.life ≤ mA := hsA.life m hmem
                refine Tr.cond_f rfl h60 ?_
                refine Tr.to_end ?_
                refine Ex.go ?_
                refine Tr.seq ?_
                refine Tr.anyD [(b7, .cells #[.slice (some ⟨bq, 0, none⟩) nA kA, .slice pB nB kB] 62 (0, 0)), (b, .cells cs et fz), (bq, .cells cur 37 (0, 0))] Lives_mo ?_
                refine RunD.pure (i := 0) rfl (by kernel_rfl) (by kernel_rfl) (by kernel_rfl) (fun _ _ _ h => h) (lt rfl) (KnAll.cons (Kn.at 3 rfl) (KnAll.cons hk.of_nil (KnAll.cons (Kn.at 0 rfl) KnAll.nil))) (fun _ => (Y.move rfl)) ?_
                refine RunD.pure (i := 1) rfl (by kernel_rfl) (by kernel_rfl) (by kernel_rfl) (fun _ _ _ h => h) (lt rfl) (KnAll.cons (Kn.at 3 rfl) (KnAll.cons hk.of_nil (KnAll.cons (Kn.at 0 rfl) KnAll.nil))) (fun _ => (Y.int (r := .int .i64 0) rfl rfl rfl)) ?_
                refine RunD.pure (i := 2) rfl (by kernel_rfl) (by kernel_rfl) (by kernel_rfl) (fun _ _ _ h => h) (lt rfl) (KnAll.cons (Kn.at 3 rfl) (KnAll.cons hk.of_nil (KnAll.cons (Kn.at 0 rfl) KnAll.nil))) (fun _ => (Y.idxArr rfl rfl Lives_al62 (by decide) (by decide))) ?_
                refine RunD.take (i := 3) 0 rfl rfl (by kernel_rfl) (by kernel_rfl) (by kernel_rfl) (fun _ _ _ h => h) (lt rfl) (KnAll.cons (Kn.at 3 rfl) (KnAll.cons hk.of_nil (KnAll.cons (Kn.at 0 rfl) KnAll.nil))) (fun _ => (Y.load rfl Lives_ts61 Kn.vk1 rfl)) ?_
                refine RunD.pure (i := 4) rfl (by kernel_rfl) (by kernel_rfl) (by kernel_rfl) (fun _ _ _ h => h) (lt rfl) (KnAll.cons (Kn.at 3 rfl) (KnAll.cons hk.of_nil (KnAll.cons (Kn.at 0 rfl) KnAll.nil))) (fun _ => (Y.move rfl)) ?_
                refine RunD.pure (i := 5) rfl (by kernel_rfl) (by kernel_rfl) (by kernel_rfl) (fun _ _ _ h => h) (lt rfl) (KnAll.cons (Kn.at 3 rfl) (KnAll.cons hk.of_nil (KnAll.cons (Kn.at 0 rfl) KnAll.nil))) (fun _ => (Y.move rfl)) ?_
                refine RunD.pure (i := 6) rfl (by kernel_rfl) (by kernel_rfl) (by kernel_rfl) (fun _ _ _ h => h) (lt rfl) (KnAll.cons (Kn.at 3 rfl) (KnAll.cons hk.of_nil (KnAll.cons (Kn.at 0 rfl) KnAll.nil))) (fun _ => (Y.idxAddr rfl rfl Lives_es59 (by omega) (by omega))) ?_
                refine RunD.pure (i := 7) rfl (by kernel_rfl) (by kernel_rfl) (by kernel_rfl) (fun _ _ _ h => h) (lt rfl) (KnAll.cons (Kn.at 3 rfl) (KnAll.cons hk.of_nil (KnAll.cons (Kn.at 0 rfl) KnAll.nil))) (fun _ => (Y.fieldAddr rfl Lives_fo65_2)) ?_
                refine RunD.take (i := 8) 1 rfl rfl (by kernel_rfl) (by kernel_rfl) (by kernel_rfl) (fun _ _ _ h => h) (lt rfl) (KnAll.cons (Kn.at 3 rfl) (KnAll.cons hk.of_nil (KnAll.cons (Kn.at 0 rfl) KnAll.nil))) (fun _ => (Y.load rfl Lives_ts3 Kn.vk1 (hrow 2 (by decide)))) ?_
                refine RunD.pure (i := 9) rfl (by kernel_rfl) (by kernel_rfl) (by kernel_rfl) (fun _ _ _ h => h) (lt rfl) (KnAll.cons (Kn.at 3 rfl) (KnAll.cons hk.of_nil (KnAll.cons (Kn.at 0 rfl) KnAll.nil))) (fun _ => (Y.int (r := .int .i64 (e.n % 1024)) rfl rfl (by simp only [intRes]; rw [and_low e.n 1023 1024 10 (by decide) rfl rfl]))) ?_
                refine RunD.pure (i := 10) rfl (by kernel_rfl) (by kernel_rfl) (by kernel_rfl) (fun _ _ _ h => h) (lt rfl) (KnAll.cons (Kn.at 3 rfl) (KnAll.cons hk.of_nil (KnAll.cons (Kn.at 0 rfl) KnAll.nil))) (fun _ => (Y.move rfl)) ?_
                refine RunD.pure (i := 11) rfl (by kernel_rfl) (by kernel_rfl) (by kernel_rfl) (fun _ _ _ h => h) (lt rfl) (KnAll.cons (Kn.at 3 rfl) (KnAll.cons hk.of_nil (KnAll.cons (Kn.at 0 rfl) KnAll.nil))) (fun _ => (Y.int (r := .int .i64 0) rfl rfl rfl)) ?_
                refine RunD.pure (i := 12) rfl (by kernel_rfl) (by kernel_rfl) (by kernel_rfl) (fun _ _ _ h => h) (lt rfl) (KnAll.cons (Kn.at 3 rfl) (KnAll.cons hk.of_nil (KnAll.cons (Kn.at 0 rfl) KnAll.nil))) (fun _ => (Y.idxArr rfl rfl Lives_al62 (by decide) (by decide))) ?_
                refine RunD.take (i := 13) 0 rfl rfl (by kernel_rfl) (by kernel_rfl) (by kernel_rfl) (fun _ _ _ h => h) (lt rfl) (KnAll.cons (Kn.at 3 rfl) (KnAll.cons hk.of_nil (KnAll.cons (Kn.at 0 rfl) KnAll.nil))) (fun _ => (Y.load rfl Lives_ts61 Kn.vk1 rfl)) ?_
                refine RunD.pure (i := 14) rfl (by kernel_rfl) (by kernel_rfl) (by kernel_rfl) (fun _ _ _ h => h) (lt rfl) (KnAll.cons (Kn.at 3 rfl) (KnAll.cons hk.of_nil (KnAll.cons (Kn.at 0 rfl) KnAll.nil))) (fun _ => (Y.lenSl rfl Lives_es61)) ?_
                refine RunD.pure (i := 15) rfl (by kernel_rfl) (by kernel_rfl) (by kernel_rfl) (fun _ _ _ h => h) (lt rfl) (KnAll.cons (Kn.at 3 rfl) (KnAll.cons hk.of_nil (KnAll.cons (Kn.at 0 rfl) KnAll.nil))) (fun _ => (Y.rem ((j : Int)) rfl rfl (by omega) hj)) ?_
                refine RunD.pure (i := 16) rfl (by kernel_rfl) (by kernel_rfl) (by kernel_rfl) (fun _ _ _ h => h) (lt rfl) (KnAll.cons (Kn.at 3 rfl) (KnAll.cons hk.of_nil (KnAll.cons (Kn.at 0 rfl) KnAll.nil))) (fun _ => (Y.idxAddr rfl rfl Lives_es61 (by omega) (by omega))) ?_
                refine RunD.take (i := 17) 2 rfl rfl (by kernel_rfl) (by kernel_rfl) (by kernel_rfl) (fun _ _ _ h => h) (lt rfl) (KnAll.cons (Kn.at 3 rfl) (KnAll.cons hk.of_nil (KnAll.cons (Kn.at 0 rfl) KnAll.nil))) (fun _ => (Y.loadAgg rfl Lives_ag37 Kn.vk1 (cellsAt_of (Msg.rowc m) _ hrowq))) ?_
                refine RunD.one (i := 18) (by kernel_rfl) rfl  ?_ 
                refine Run.alloc Lives_zo37 (lt rfl) (fun b61 => ?_)
                refine Run.to_end ?_
                refine Ex.anyD (KnAll.cons (Kn.at 4 rfl) (KnAll.cons hk.of_nil (KnAll.cons (Kn.at 1 rfl) KnAll.nil))) ?_
                refine RunD.one (i := 19) (by kernel_rfl) rfl  ?_ 
                refine Run.store (s := [(b61, .cells #[.int .i64 m.kind, .int .i64 m.life, .int .i64 m.seen, .int .i64 m.xid, .int .i64 m.state, .int .u32 m.addr, .int .i64 m.bind, .string m.client, .int .i64 m.pot, .int .i64 m.at_, .bool m.ok] 37 (0, 0))]) rfl rfl Lives_sz37 (i := 0) rfl rfl (le rfl) rfl rfl ?_
                refine Run.to_end ?_
                refine Ex.anyD (KnAll.cons (Kn.at 4 rfl) (KnAll.cons hk.of_nil (KnAll.cons (Kn.at 1 rfl) KnAll.nil))) ?_
                refine RunD.done (by kernel_rfl) ?_
                refine Ex.go ?_
                refine Tr.seq ?_
                refine Tr.anyD [(b5, .cells #[.pointer (some ⟨bA, 0, none⟩), .pointer (some ⟨bB, 0, none⟩)] 60 (0, 0)), (b61, .cells #[.int .i64 m.kind, .int .i64 m.life, .int .i64 m.seen, .int .i64 m.xid, .int .i64 m.state, .int .u32 m.addr, .int .i64 m.bind, .string m.client, .int .i64 m.pot, .int .i64 m.at_, .bool m.ok] 37 (0, 0))] Lives_mo ?_
                refine RunD.pure (i := 0) rfl (by kernel_rfl) (by kernel_rfl) (by kernel_rfl) (fun _ _ _ h => h) (lt rfl) (KnAll.cons (Kn.at 6 rfl) (KnAll.cons (Kn.at 0 rfl) KnAll.nil)) (fun _ => (Y.move rfl)) ?_
                refine RunD.pure (i := 1) rfl (by kernel_rfl) (by kernel_rfl) (by kernel_rfl) (fun _ _ _ h => h) (lt rfl) (KnAll.cons (Kn.at 6 rfl) (KnAll.cons (Kn.at 0 rfl) KnAll.nil)) (fun _ => (Y.idxArr rfl rfl Lives_al60 (by decide) (by decide))) ?_
                refine RunD.take (i := 2) 0 rfl rfl (by kernel_rfl) (by kernel_rfl) (by kernel_rfl) (fun _ _ _ h => h) (lt rfl) (KnAll.cons (Kn.at 6 rfl) (KnAll.cons (Kn.at 0 rfl) KnAll.nil)) (fun _ => (Y.load rfl Lives_ts46 Kn.vk1 rfl)) ?_
                refine RunD.take (i := 3) 1 rfl rfl (by kernel_rfl) (by kernel_rfl) (by kernel_rfl) (fun _ _ _ h => h) (lt rfl) (KnAll.cons (Kn.at 6 rfl) (KnAll.cons (Kn.at 0 rfl) KnAll.nil)) (fun _ => (Y.loadAgg rfl Lives_ag37 Kn.vk1 rfl)) ?_
                refine RunD.pure (i := 4) rfl (by kernel_rfl) (by kernel_rfl) (by kernel_rfl) (fun _ _ _ h => h) (lt rfl) (KnAll.cons (Kn.at 6 rfl) (KnAll.cons (Kn.at 0 rfl) KnAll.nil)) (fun _ => (Y.move rfl)) ?_
                refine RunD.one (i := 5) (by kernel_rfl) rfl  ?_ 
                refine Run.call [8] (l := [.tmp 143, .tmp 144, .tmp 145]) rfl rfl rfl (lt rfl) (take19_c (c := cB) (m := m) (now := now) hsB.inv) (fun v62 V2 H2 _ hR => ?_)
                obtain ⟨hV, rfl, rfl⟩ := hR; replace hV := hV.symm; subst hV
                refine Run.to_end ?_
                refine Ex.anyD (KnAll.cons (Kn.at 6 rfl) (KnAll.cons (Kn.at 0 rfl) KnAll.nil)) ?_
                refine RunD.pure (i := 6) rfl (by kernel_rfl) (by kernel_rfl) (by kernel_rfl) (fun _ _ _ h => h) (lt rfl) (KnAll.cons (Kn.at 6 rfl) (KnAll.cons (Kn.at 0 rfl) KnAll.nil)) (fun _ => (Y.move rfl)) ?_
                refine RunD.pure (i := 7) rfl (by kernel_rfl) (by kernel_rfl) (by kernel_rfl) (fun _ _ _ h => h) (lt rfl) (KnAll.cons (Kn.at 6 rfl) (KnAll.cons (Kn.at 0 rfl) KnAll.nil)) (fun _ => (Y.extract rfl rfl)) ?_
                refine RunD.pure (i := 8) rfl (by kernel_rfl) (by kernel_rfl) (by kernel_rfl) (fun _ _ _ h => h) (lt rfl) (KnAll.cons (Kn.at 6 rfl) (KnAll.cons (Kn.at 0 rfl) KnAll.nil)) (fun _ => (Y.extract rfl rfl)) ?_
                refine RunD.pure (i := 9) rfl (by kernel_rfl) (by kernel_rfl) (by kernel_rfl) (fun _ _ _ h => h) (lt rfl) (KnAll.cons (Kn.at 6 rfl) (KnAll.cons (Kn.at 0 rfl) KnAll.nil)) (fun _ => (Y.assign rfl)) ?_
                refine RunD.pure (i := 10) rfl (by kernel_rfl) (by kernel_rfl) (by kernel_rfl) (fun _ _ _ h => h) (lt rfl) (KnAll.cons (Kn.at 6 rfl) (KnAll.cons (Kn.at 0 rfl) KnAll.nil)) (fun _ => (Y.assign rfl)) ?_
                refine RunD.done (by kernel_rfl) ?_
                refine Ex.go ?_
                refine Tr.seq ?_
                refine Tr.seq ?_
                refine Tr.region ?_
                refine Run.val (lt rfl) (Y.move rfl) ?_
                refine Run.val (lt rfl) (Y.int rfl rfl rfl) ?_
                refine Run.to_end ?_
                refine Ex.go ?_
                rcases Bool.eq_false_or_eq_true ((Con.takeE cB m now) != 0) with h63 | h63
                · have g63 := h63
                  try simp only [kb] at g63
                  have hEb : Con.takeE cB m now ≠ 0 := by simpa using h63
                  refine Tr.cond_t rfl h63 ?_
                  refine Tr.to_exit ?_
                  refine Ex.exit_then ?_
                  refine Ex.exit_out rfl ?_
                  refine Ex.exit_then ?_
                  refine Ex.exit_in ?_
                  refine Ex.go ?_
                  refine Tr.region ?_
                  refine Run.val (lt rfl) (Y.move rfl) ?_
                  refine Run.val (lt rfl) (Y.add rfl rfl (by omega)) ?_
                  refine Run.val (lt rfl) (Y.assign rfl) ?_
                  refine Run.to_end ?_
                  have hokB : Con.Sd.ok 37 ⟨bB, (Con.takeC cB m now), mB, pB, nB, kB, qB, xB, lB, aB, dB⟩ ⟨bA, cA, mA, (some ⟨bq, 0, none⟩), nA, kA, [(bq, .cells cur 37 (0, 0))], xA, lA, aA, dA⟩ (i + 1) := hsB.takeBad hEb
                  have hokA : Con.Sd.ok 37 ⟨bA, cA, mA, (some ⟨bq, 0, none⟩), nA, kA, [(bq, .cells cur 37 (0, 0))], xA, lA, aA, dA⟩ ⟨bB, (Con.takeC cB m now), mB, pB, nB, kB, qB, xB, lB, aB, dB⟩ (i + 1) := hsA.rest (Int.le_refl _)
                  refine Ex.keep [1, 1, 1, 1, 1, 1, 1, 1] ?_
                  exact Ex.round ((⟨bA, cA, mA, (some ⟨bq, 0, none⟩), nA, kA, [(bq, .cells cur 37 (0, 0))], xA, lA, aA, dA⟩ : Con.Sd), (⟨bB, (Con.takeC cB m now), mB, pB, nB, kB, qB, xB, lB, aB, dB⟩ : Con.Sd), (now : Int), i + 1) ⟨hokA, hokB, ⟨by show (0 : Int) ≤ now; omega, by show now ≤ 3 * ((i + 1 : Nat) : Int); omega⟩, by show i + 1 ≤ 250; omega, by show i + 1 ≤ l.length; omega⟩ (by show l.length - (i + 1) < l.length - i; omega) rfl rfl (subB_cons (by first | rfl | exact congrArg (fun z => some (Value.int _ z)) (by omega)) (subB_cons (by first | rfl | exact congrArg (fun z => some (Value.int _ z)) (by omega)) (subB_cons (by first | rfl | exact congrArg (fun z => some (Value.int _ z)) (by omega)) (subB_cons (by first | rfl | exact congrArg (fun z => some (Value.int _ z)) (by omega)) (subB_cons (by first | rfl | exact congrArg (fun z => some (Value.int _ z)) (by omega)) (subB_cons (by first | rfl | exact congrArg (fun z => some (Value.int _ z)) (by omega)) (subB_cons (by first | rfl | exact congrArg (fun z => some (Value.int _ z)) (by omega)) (subB_nil _))))))))
                · have g63 := h63
                  try simp only [kb] at g63
                  have hE : Con.takeE cB m now = 0 := by simpa using h63
                  refine Tr.cond_f rfl h63 ?_
                  refine Tr.to_end ?_
                  refine Ex.go ?_
                  refine Tr.seq ?_
                  refine Tr.seq ?_
                  refine Tr.quiet Lives_mo (by kernel_rfl) ?_
                  refine RunQ.val (lt rfl) (Y.fieldAddr rfl Lives_fo37_0) ?_
                  refine RunQ.val (lt rfl) (Y.load rfl Lives_ts3 (Kn.at 0 rfl) rfl) ?_
                  refine RunQ.val (lt rfl) (Y.int rfl rfl rfl) ?_
                  refine RunQ.val (lt rfl) (Y.move rfl) ?_
                  rcases Bool.eq_false_or_eq_true (m.kind != 1) with h64 | h64
                  · have g64 := h64
                    try simp only [kb] at g64
                    have hkd : ¬ m.kind = 1 := by simpa using h64
                    have hse : m.seen = mB ∧ m.life = (Con.takeC cB m now).known := hsB.see hE hkd
                    refine RunQ.on rfl rfl rfl h64 ?_
                    refine RunQ.val (lt rfl) (Y.fieldAddr rfl Lives_fo37_2) ?_
                    refine RunQ.on rfl rfl rfl h64 ?_
                    refine RunQ.val (lt rfl) (Y.load rfl Lives_ts3 (Kn.at 0 rfl) rfl) ?_
                    refine RunQ.on rfl rfl rfl h64 ?_
                    refine RunQ.val (lt rfl) (Y.move rfl) ?_
                    refine RunQ.on rfl rfl rfl h64 ?_
                    refine RunQ.val (lt rfl) (Y.idxArr rfl rfl Lives_al24 (by decide) (by decide)) ?_
                    refine RunQ.on rfl rfl rfl h64 ?_
                    refine RunQ.val (lt rfl) (Y.load rfl Lives_ts3 (Kn.at 5 rfl) rfl) ?_
                    refine RunQ.on rfl rfl rfl h64 ?_
                    refine RunQ.val (lt rfl) (Y.int rfl rfl rfl) ?_
                    refine RunQ.on rfl rfl rfl h64 ?_
                    refine RunQ.val (lt rfl) (Y.move rfl) ?_
                    refine RunQ.on rfl rfl rfl (bne_eq_false_iff_eq.2 hse.1) ?_
                    refine RunQ.val (lt rfl) (Y.fieldAddr rfl Lives_fo37_1) ?_
                    refine RunQ.on rfl rfl rfl (bne_eq_false_iff_eq.2 hse.1) ?_
                    refine RunQ.val (lt rfl) (Y.load rfl Lives_ts3 (Kn.at 0 rfl) rfl) ?_
                    refine RunQ.on rfl rfl rfl (bne_eq_false_iff_eq.2 hse.1) ?_
                    refine RunQ.val (lt rfl) (Y.move rfl) ?_
                    refine RunQ.on rfl rfl rfl (bne_eq_false_iff_eq.2 hse.1) ?_
                    refine RunQ.val (lt rfl) (Y.idxArr rfl rfl Lives_al60 (by decide) (by decide)) ?_
                    refine RunQ.on rfl rfl rfl (bne_eq_false_iff_eq.2 hse.1) ?_
                    refine RunQ.val (lt rfl) (Y.load rfl Lives_ts46 (Kn.at 6 rfl) rfl) ?_
                    refine RunQ.on rfl rfl rfl (bne_eq_false_iff_eq.2 hse.1) ?_
                    refine RunQ.call0 (l := [.tmp 166]) rfl rfl rfl (lt rfl) (other_c (c := (Con.takeC cB m now)) (Kn.at 8 rfl)) ?_
                    refine RunQ.on rfl rfl rfl (bne_eq_false_iff_eq.2 hse.1) ?_
                    refine RunQ.val (lt rfl) (Y.int rfl rfl rfl) ?_
                    refine RunQ.on rfl rfl rfl h64 ?_
                    refine RunQ.val (lt rfl) (Y.pick_f rfl (bne_eq_false_iff_eq.2 hse.1) rfl) ?_
                    refine RunQ.val (lt rfl) (Y.pick_t rfl h64 rfl) ?_
                    refine RunQ.to_end ?_
                    refine Ex.go ?_
                    refine Tr.cond_f rfl (bne_eq_false_iff_eq.2 hse.2) ?_
                    refine Tr.to_end ?_
                    refine Ex.go ?_
                    refine Tr.seq ?_
                    refine Tr.region ?_
                    refine Run.val (lt rfl) (Y.fieldAddr rfl Lives_fo37_0) ?_
                    refine Run.val (lt rfl) (Y.load rfl Lives_ts3 (Kn.at 0 rfl) rfl) ?_
                    refine Run.val (lt rfl) (Y.int rfl rfl rfl) ?_
                    refine Run.to_end ?_
                    refine Ex.go ?_
                    refine Tr.cond_f rfl (beq_eq_false_iff_ne.2 hkd) ?_
                    refine Tr.to_end ?_
                    refine Ex.end_block ?_
                    refine Ex.go ?_
                    refine Tr.seq ?_
                    refine Tr.quiet Lives_mo (by kernel_rfl) ?_
                    have hokB : Con.Sd.ok 37 ⟨bB, (Con.takeC cB m now), mB, pB, nB, kB, qB, xB, lB, aB, dB⟩ ⟨bA, cA, mA, (some ⟨bq, 0, none⟩), nA, kA, [(bq, .cells cur 37 (0, 0))], xA, lA, aA, dA⟩ (i + 1) := hsB.takeSome hE hkd
                    have hokA : Con.Sd.ok 37 ⟨bA, cA, mA, (some ⟨bq, 0, none⟩), nA, kA, [(bq, .cells cur 37 (0, 0))], xA, lA, aA, dA⟩ ⟨bB, (Con.takeC cB m now), mB, pB, nB, kB, qB, xB, lB, aB, dB⟩ (i + 1) := hsA.rest (Int.le_refl _)
                    refine RunQ.val (lt rfl) (Y.move rfl) ?_
                    refine RunQ.val (lt rfl) (Y.idxArr rfl rfl Lives_al60 (by decide) (by decide)) ?_
                    refine RunQ.val (lt rfl) (Y.load rfl Lives_ts46 (Kn.at 6 rfl) rfl) ?_
                    refine RunQ.call0 (l := [.tmp 249]) rfl rfl rfl (lt rfl) (other_c (c := (Con.takeC cB m now)) (Kn.at 8 rfl)) ?_
                    refine RunQ.val (lt rfl) (Y.move rfl) ?_
                    refine RunQ.val (lt rfl) (Y.int (r := .int .i64 0) rfl rfl rfl) ?_
                    refine RunQ.val (lt rfl) (Y.idxArr rfl rfl Lives_al24 (by decide) (by decide)) ?_
                    refine RunQ.val (lt rfl) (Y.load rfl Lives_ts3 (Kn.at 5 rfl) rfl) ?_
                    refine RunQ.val (lt rfl) (Y.int rfl rfl rfl) ?_
                    refine RunQ.to_end ?_
                    refine Ex.go ?_
                    refine Tr.cond_f rfl (decide_eq_false (Int.not_lt.2 hokB.known)) ?_
                    refine Tr.to_end ?_
                    refine Ex.end_block ?_
                    refine Ex.go ?_
                    refine Tr.region ?_
                    refine Run.val (lt rfl) (Y.move rfl) ?_
                    refine Run.val (lt rfl) (Y.add rfl rfl (by omega)) ?_
                    refine Run.val (lt rfl) (Y.assign rfl) ?_
                    refine Run.to_end ?_
                    refine Ex.keep [1, 1, 1, 1, 1, 1, 1, 1] ?_
                    exact Ex.round ((⟨bA, cA, mA, (some ⟨bq, 0, none⟩), nA, kA, [(bq, .cells cur 37 (0, 0))], xA, lA, aA, dA⟩ : Con.Sd), (⟨bB, (Con.takeC cB m now), mB, pB, nB, kB, qB, xB, lB, aB, dB⟩ : Con.Sd), (now : Int), i + 1) ⟨hokA, hokB, ⟨by show (0 : Int) ≤ now; omega, by show now ≤ 3 * ((i + 1 : Nat) : Int); omega⟩, by show i + 1 ≤ 250; omega, by show i + 1 ≤ l.length; omega⟩ (by show l.length - (i + 1) < l.length - i; omega) rfl rfl (subB_cons (by first | rfl | exact congrArg (fun z => some (Value.int _ z)) (by omega)) (subB_cons (by first | rfl | exact congrArg (fun z => some (Value.int _ z)) (by omega)) (subB_cons (by first | rfl | exact congrArg (fun z => some (Value.int _ z)) (by omega)) (subB_cons (by first | rfl | exact congrArg (fun z => some (Value.int _ z)) (by omega)) (subB_cons (by first | rfl | exact congrArg (fun z => some (Value.int _ z)) (by omega)) (subB_cons (by first | rfl | exact congrArg (fun z => some (Value.int _ z)) (by omega)) (subB_cons (by first | rfl | exact congrArg (fun z => some (Value.int _ z)) (by omega)) (subB_nil _))))))))
                  · have g64 := h64
                    try simp only [kb] at g64
                    have hkd : m.kind = 1 := by simpa using h64
                    have hhe : ¬ aB > m.life ∧ (aB = m.life → ¬ dB ≥ m.xid) := hsB.hear hE hkd
                    refine RunQ.off rfl rfl rfl h64 rfl (lt rfl) ?_
                    refine RunQ.off rfl rfl rfl h64 rfl (lt rfl) ?_
                    refine RunQ.off rfl rfl rfl h64 rfl (lt rfl) ?_
                    refine RunQ.off rfl rfl rfl h64 rfl (lt rfl) ?_
                    refine RunQ.off rfl rfl rfl h64 rfl (lt rfl) ?_
                    refine RunQ.off rfl rfl rfl h64 rfl (lt rfl) ?_
                    refine RunQ.off rfl rfl rfl h64 rfl (lt rfl) ?_
                    refine RunQ.off_u rfl rfl rfl rfl (lt rfl) ?_
                    refine RunQ.off_u rfl rfl rfl rfl (lt rfl) ?_
                    refine RunQ.off_u rfl rfl rfl rfl (lt rfl) ?_
                    refine RunQ.off_u rfl rfl rfl rfl (lt rfl) ?_
                    refine RunQ.off_u rfl rfl rfl rfl (lt rfl) ?_
                    refine RunQ.off_u rfl rfl rfl rfl (lt rfl) ?_
                    refine RunQ.off_u rfl rfl rfl rfl (lt rfl) ?_
                    refine RunQ.off rfl rfl rfl h64 rfl (lt rfl) ?_
                    refine RunQ.val (lt rfl) (Y.pick_f rfl h64 rfl) ?_
                    refine RunQ.to_end ?_
                    refine Ex.go ?_
                    refine Tr.cond_f rfl rfl ?_
                    refine Tr.to_end ?_
                    refine Ex.go ?_
                    refine Tr.seq ?_
                    refine Tr.region ?_
                    refine Run.val (lt rfl) (Y.fieldAddr rfl Lives_fo37_0) ?_
                    refine Run.val (lt rfl) (Y.load rfl Lives_ts3 (Kn.at 0 rfl) rfl) ?_
                    refine Run.val (lt rfl) (Y.int rfl rfl rfl) ?_
                    refine Run.to_end ?_
                    refine Ex.go ?_
                    refine Tr.cond_t rfl (beq_iff_eq.2 hkd) ?_
                    refine Tr.seq ?_
                    refine Tr.seq ?_
                    refine Tr.quiet Lives_mo (by kernel_rfl) ?_
                    refine RunQ.val (lt rfl) (Y.move rfl) ?_
                    refine RunQ.val (lt rfl) (Y.idxArr rfl rfl Lives_al63 (by decide) (by decide)) ?_
                    refine RunQ.val (lt rfl) (Y.idxArr rfl rfl Lives_al24 (by decide) (by decide)) ?_
                    refine RunQ.val (lt rfl) (Y.load rfl Lives_ts3 (Kn.at 3 rfl) rfl) ?_
                    refine RunQ.val (lt rfl) (Y.fieldAddr rfl Lives_fo37_1) ?_
                    refine RunQ.val (lt rfl) (Y.load rfl Lives_ts3 (Kn.at 0 rfl) rfl) ?_
                    refine RunQ.val (lt rfl) (Y.int rfl rfl rfl) ?_
                    refine RunQ.val (lt rfl) (Y.move rfl) ?_
                    refine RunQ.on rfl rfl rfl (decide_eq_false hhe.1) ?_
                    refine RunQ.val (lt rfl) (Y.move rfl) ?_
                    refine RunQ.on rfl rfl rfl (decide_eq_false hhe.1) ?_
                    refine RunQ.val (lt rfl) (Y.idxArr rfl rfl Lives_al63 (by decide) (by decide)) ?_
                    refine RunQ.on rfl rfl rfl (decide_eq_false hhe.1) ?_
                    refine RunQ.val (lt rfl) (Y.idxArr rfl rfl Lives_al24 (by decide) (by decide)) ?_
                    refine RunQ.on rfl rfl rfl (decide_eq_false hhe.1) ?_
                    refine RunQ.val (lt rfl) (Y.load rfl Lives_ts3 (Kn.at 3 rfl) rfl) ?_
                    refine RunQ.on rfl rfl rfl (decide_eq_false hhe.1) ?_
                    refine RunQ.val (lt rfl) (Y.fieldAddr rfl Lives_fo37_1) ?_
                    refine RunQ.on rfl rfl rfl (decide_eq_false hhe.1) ?_
                    refine RunQ.val (lt rfl) (Y.load rfl Lives_ts3 (Kn.at 0 rfl) rfl) ?_
                    refine RunQ.on rfl rfl rfl (decide_eq_false hhe.1) ?_
                    refine RunQ.val (lt rfl) (Y.int rfl rfl rfl) ?_
                    refine RunQ.on rfl rfl rfl (decide_eq_false hhe.1) ?_
                    refine RunQ.val (lt rfl) (Y.move rfl) ?_
                    rcases Bool.eq_false_or_eq_true (aB == m.life) with h65 | h65
                    · have g65 := h65
                      try simp only [kb] at g65
                      refine RunQ.on rfl rfl rfl h65 ?_
                      refine RunQ.val (lt rfl) (Y.move rfl) ?_
                      refine RunQ.on rfl rfl rfl h65 ?_
                      refine RunQ.val (lt rfl) (Y.idxArr rfl rfl Lives_al63 (by decide) (by decide)) ?_
                      refine RunQ.on rfl rfl rfl h65 ?_
                      refine RunQ.val (lt rfl) (Y.idxArr rfl rfl Lives_al24 (by decide) (by decide)) ?_
                      refine RunQ.on rfl rfl rfl h65 ?_
                      refine RunQ.val (lt rfl) (Y.load rfl Lives_ts3 (Kn.at 3 rfl) rfl) ?_
                      refine RunQ.on rfl rfl rfl h65 ?_
                      refine RunQ.val (lt rfl) (Y.fieldAddr rfl Lives_fo37_3) ?_
                      refine RunQ.on rfl rfl rfl h65 ?_
                      refine RunQ.val (lt rfl) (Y.load rfl Lives_ts3 (Kn.at 0 rfl) rfl) ?_
                      refine RunQ.on rfl rfl rfl h65 ?_
                      refine RunQ.val (lt rfl) (Y.int rfl rfl rfl) ?_
                      refine RunQ.on rfl rfl rfl (decide_eq_false hhe.1) ?_
                      refine RunQ.val (lt rfl) (Y.pick_t rfl h65 rfl) ?_
                      refine RunQ.val (lt rfl) (Y.pick_f rfl (decide_eq_false hhe.1) rfl) ?_
                      refine RunQ.to_end ?_
                      refine Ex.go ?_
                      refine Tr.cond_f rfl (decide_eq_false (hhe.2 (by simpa using h65))) ?_
                      refine Tr.to_end ?_
                      refine Ex.go ?_
                      refine Tr.region ?_
                      refine Run.val (lt rfl) (Y.move rfl) ?_
                      refine Run.val (lt rfl) (Y.fieldAddr rfl Lives_fo37_1) ?_
                      refine Run.val (lt rfl) (Y.load rfl Lives_ts3 (Kn.at 0 rfl) rfl) ?_
                      refine Run.val (lt rfl) (Y.fieldAddr rfl Lives_fo37_3) ?_
                      refine Run.val (lt rfl) (Y.load rfl Lives_ts3 (Kn.at 0 rfl) rfl) ?_
                      refine Run.val (lt rfl) (Y.buildA (l := [(0, .tmp 201), (1, .tmp 203)]) Lives_zo24 Lives_ea24 rfl rfl) ?_
                      refine Run.val (lt rfl) (Y.idxArr rfl rfl Lives_al63 (by decide) (by decide)) ?_
                      refine Run.store (s := [(b8, .cells #[.int .i64 aA, .int .i64 dA, .int .i64 m.life, .int .i64 m.xid] 63 (0, 0))]) rfl rfl Lives_sz24 (i := 3) rfl rfl (le rfl) rfl rfl ?_
                      refine Run.to_end ?_
                      refine Ex.end_block ?_
                      refine Ex.go ?_
                      refine Tr.seq ?_
                      refine Tr.quiet Lives_mo (by kernel_rfl) ?_
                      have hokB : Con.Sd.ok 37 ⟨bB, (Con.takeC cB m now), mB, pB, nB, kB, qB, xB, lB, m.life, m.xid⟩ ⟨bA, cA, mA, (some ⟨bq, 0, none⟩), nA, kA, [(bq, .cells cur 37 (0, 0))], xA, lA, aA, dA⟩ (i + 1) := hsB.takeHello hE hkd hml
                      have hokA : Con.Sd.ok 37 ⟨bA, cA, mA, (some ⟨bq, 0, none⟩), nA, kA, [(bq, .cells cur 37 (0, 0))], xA, lA, aA, dA⟩ ⟨bB, (Con.takeC cB m now), mB, pB, nB, kB, qB, xB, lB, m.life, m.xid⟩ (i + 1) := hsA.rest (Int.le_refl _)
                      refine RunQ.val (lt rfl) (Y.move rfl) ?_
                      refine RunQ.val (lt rfl) (Y.idxArr rfl rfl Lives_al60 (by decide) (by decide)) ?_
                      refine RunQ.val (lt rfl) (Y.load rfl Lives_ts46 (Kn.at 6 rfl) rfl) ?_
                      refine RunQ.call0 (l := [.tmp 249]) rfl rfl rfl (lt rfl) (other_c (c := (Con.takeC cB m now)) (Kn.at 8 rfl)) ?_
                      refine RunQ.val (lt rfl) (Y.move rfl) ?_
                      refine RunQ.val (lt rfl) (Y.int (r := .int .i64 0) rfl rfl rfl) ?_
                      refine RunQ.val (lt rfl) (Y.idxArr rfl rfl Lives_al24 (by decide) (by decide)) ?_
                      refine RunQ.val (lt rfl) (Y.load rfl Lives_ts3 (Kn.at 5 rfl) rfl) ?_
                      refine RunQ.val (lt rfl) (Y.int rfl rfl rfl) ?_
                      refine RunQ.to_end ?_
                      refine Ex.go ?_
                      refine Tr.cond_f rfl (decide_eq_false (Int.not_lt.2 hokB.known)) ?_
                      refine Tr.to_end ?_
                      refine Ex.end_block ?_
                      refine Ex.go ?_
                      refine Tr.region ?_
                      refine Run.val (lt rfl) (Y.move rfl) ?_
                      refine Run.val (lt rfl) (Y.add rfl rfl (by omega)) ?_
                      refine Run.val (lt rfl) (Y.assign rfl) ?_
                      refine Run.to_end ?_
                      refine Ex.keep [1, 1, 1, 1, 1, 1, 1, 1] ?_
                      exact Ex.round ((⟨bA, cA, mA, (some ⟨bq, 0, none⟩), nA, kA, [(bq, .cells cur 37 (0, 0))], xA, lA, aA, dA⟩ : Con.Sd), (⟨bB, (Con.takeC cB m now), mB, pB, nB, kB, qB, xB, lB, m.life, m.xid⟩ : Con.Sd), (now : Int), i + 1) ⟨hokA, hokB, ⟨by show (0 : Int) ≤ now; omega, by show now ≤ 3 * ((i + 1 : Nat) : Int); omega⟩, by show i + 1 ≤ 250; omega, by show i + 1 ≤ l.length; omega⟩ (by show l.length - (i + 1) < l.length - i; omega) rfl rfl (subB_cons (by first | rfl | exact congrArg (fun z => some (Value.int _ z)) (by omega)) (subB_cons (by first | rfl | exact congrArg (fun z => some (Value.int _ z)) (by omega)) (subB_cons (by first | rfl | exact congrArg (fun z => some (Value.int _ z)) (by omega)) (subB_cons (by first | rfl | exact congrArg (fun z => some (Value.int _ z)) (by omega)) (subB_cons (by first | rfl | exact congrArg (fun z => some (Value.int _ z)) (by omega)) (subB_cons (by first | rfl | exact congrArg (fun z => some (Value.int _ z)) (by omega)) (subB_cons (by first | rfl | exact congrArg (fun z => some (Value.int _ z)) (by omega)) (subB_nil _))))))))
                    · have g65 := h65
                      try simp only [kb] at g65
                      refine RunQ.off rfl rfl rfl h65 rfl (lt rfl) ?_
                      refine RunQ.off rfl rfl rfl h65 rfl (lt rfl) ?_
                      refine RunQ.off rfl rfl rfl h65 rfl (lt rfl) ?_
                      refine RunQ.off rfl rfl rfl h65 rfl (lt rfl) ?_
                      refine RunQ.off rfl rfl rfl h65 rfl (lt rfl) ?_
                      refine RunQ.off rfl rfl rfl h65 rfl (lt rfl) ?_
                      refine RunQ.off rfl rfl rfl h65 rfl (lt rfl) ?_
                      refine RunQ.on rfl rfl rfl (decide_eq_false hhe.1) ?_
                      refine RunQ.val (lt rfl) (Y.pick_f rfl h65 rfl) ?_
                      refine RunQ.val (lt rfl) (Y.pick_f rfl (decide_eq_false hhe.1) rfl) ?_
                      refine RunQ.to_end ?_
                      refine Ex.go ?_
                      refine Tr.cond_f rfl rfl ?_
                      refine Tr.to_end ?_
                      refine Ex.go ?_
                      refine Tr.region ?_
                      refine Run.val (lt rfl) (Y.move rfl) ?_
                      refine Run.val (lt rfl) (Y.fieldAddr rfl Lives_fo37_1) ?_
                      refine Run.val (lt rfl) (Y.load rfl Lives_ts3 (Kn.at 0 rfl) rfl) ?_
                      refine Run.val (lt rfl) (Y.fieldAddr rfl Lives_fo37_3) ?_
                      refine Run.val (lt rfl) (Y.load rfl Lives_ts3 (Kn.at 0 rfl) rfl) ?_
                      refine Run.val (lt rfl) (Y.buildA (l := [(0, .tmp 201), (1, .tmp 203)]) Lives_zo24 Lives_ea24 rfl rfl) ?_
                      refine Run.val (lt rfl) (Y.idxArr rfl rfl Lives_al63 (by decide) (by decide)) ?_
                      refine Run.store (s := [(b8, .cells #[.int .i64 aA, .int .i64 dA, .int .i64 m.life, .int .i64 m.xid] 63 (0, 0))]) rfl rfl Lives_sz24 (i := 3) rfl rfl (le rfl) rfl rfl ?_
                      refine Run.to_end ?_
                      refine Ex.end_block ?_
                      refine Ex.go ?_
                      refine Tr.seq ?_
                      refine Tr.quiet Lives_mo (by kernel_rfl) ?_
                      have hokB : Con.Sd.ok 37 ⟨bB, (Con.takeC cB m now), mB, pB, nB, kB, qB, xB, lB, m.life, m.xid⟩ ⟨bA, cA, mA, (some ⟨bq, 0, none⟩), nA, kA, [(bq, .cells cur 37 (0, 0))], xA, lA, aA, dA⟩ (i + 1) := hsB.takeHello hE hkd hml
                      have hokA : Con.Sd.ok 37 ⟨bA, cA, mA, (some ⟨bq, 0, none⟩), nA, kA, [(bq, .cells cur 37 (0, 0))], xA, lA, aA, dA⟩ ⟨bB, (Con.takeC cB m now), mB, pB, nB, kB, qB, xB, lB, m.life, m.xid⟩ (i + 1) := hsA.rest (Int.le_refl _)
                      refine RunQ.val (lt rfl) (Y.move rfl) ?_
                      refine RunQ.val (lt rfl) (Y.idxArr rfl rfl Lives_al60 (by decide) (by decide)) ?_
                      refine RunQ.val (lt rfl) (Y.load rfl Lives_ts46 (Kn.at 6 rfl) rfl) ?_
                      refine RunQ.call0 (l := [.tmp 249]) rfl rfl rfl (lt rfl) (other_c (c := (Con.takeC cB m now)) (Kn.at 8 rfl)) ?_
                      refine RunQ.val (lt rfl) (Y.move rfl) ?_
                      refine RunQ.val (lt rfl) (Y.int (r := .int .i64 0) rfl rfl rfl) ?_
                      refine RunQ.val (lt rfl) (Y.idxArr rfl rfl Lives_al24 (by decide) (by decide)) ?_
                      refine RunQ.val (lt rfl) (Y.load rfl Lives_ts3 (Kn.at 5 rfl) rfl) ?_
                      refine RunQ.val (lt rfl) (Y.int rfl rfl rfl) ?_
                      refine RunQ.to_end ?_
                      refine Ex.go ?_
                      refine Tr.cond_f rfl (decide_eq_false (Int.not_lt.2 hokB.known)) ?_
                      refine Tr.to_end ?_
                      refine Ex.end_block ?_
                      refine Ex.go ?_
                      refine Tr.region ?_
                      refine Run.val (lt rfl) (Y.move rfl) ?_
                      refine Run.val (lt rfl) (Y.add rfl rfl (by omega)) ?_
                      refine Run.val (lt rfl) (Y.assign rfl) ?_
                      refine Run.to_end ?_
                      refine Ex.keep [1, 1, 1, 1, 1, 1, 1, 1] ?_
                      exact Ex.round ((⟨bA, cA, mA, (some ⟨bq, 0, none⟩), nA, kA, [(bq, .cells cur 37 (0, 0))], xA, lA, aA, dA⟩ : Con.Sd), (⟨bB, (Con.takeC cB m now), mB, pB, nB, kB, qB, xB, lB, m.life, m.xid⟩ : Con.Sd), (now : Int), i + 1) ⟨hokA, hokB, ⟨by show (0 : Int) ≤ now; omega, by show now ≤ 3 * ((i + 1 : Nat) : Int); omega⟩, by show i + 1 ≤ 250; omega, by show i + 1 ≤ l.length; omega⟩ (by show l.length - (i + 1) < l.length - i; omega) rfl rfl (subB_cons (by first | rfl | exact congrArg (fun z => some (Value.int _ z)) (by omega)) (subB_cons (by first | rfl | exact congrArg (fun z => some (Value.int _ z)) (by omega)) (subB_cons (by first | rfl | exact congrArg (fun z => some (Value.int _ z)) (by omega)) (subB_cons (by first | rfl | exact congrArg (fun z => some (Value.int _ z)) (by omega)) (subB_cons (by first | rfl | exact congrArg (fun z => some (Value.int _ z)) (by omega)) (subB_cons (by first | rfl | exact congrArg (fun z => some (Value.int _ z)) (by omega)) (subB_cons (by first | rfl | exact congrArg (fun z => some (Value.int _ z)) (by omega)) (subB_nil _))))))))
            · have g59 := h59
              try simp only [kb] at g59
              refine Tr.cond_f rfl h59 ?_
              refine Tr.seq ?_
              refine Tr.region ?_
              refine Run.val (lt rfl) (Y.int rfl rfl rfl) ?_
              refine Run.val (lt rfl) (Y.assign rfl) ?_
              refine Run.to_end ?_
              refine Ex.go ?_
              rcases Bool.eq_false_or_eq_true (e.do_ == 3) with h66 | h66
              · have g66 := h66
                try simp only [kb] at g66
                refine Tr.cond_t rfl h66 ?_
                refine Tr.seq ?_
                refine Tr.region ?_
                refine Run.val (lt rfl) (Y.move rfl) ?_
                refine Run.val (lt rfl) (Y.move rfl) ?_
                refine Run.val (lt rfl) (Y.move rfl) ?_
                refine Run.val (lt rfl) (Y.idxAddr rfl rfl Lives_es59 (by omega) (by omega)) ?_
                refine Run.val (lt rfl) (Y.fieldAddr rfl Lives_fo65_2) ?_
                refine Run.val (lt rfl) (Y.load rfl Lives_ts3 hk.of_nil (hrow 2 (by decide))) ?_
                refine Run.val (lt rfl) (Y.int (r := .int .i64 (e.n % 4)) rfl rfl (by simp only [intRes]; rw [and_low e.n 3 4 2 (by decide) rfl rfl])) ?_
                refine Run.val (lt rfl) (Y.add rfl rfl (by omega)) ?_
                refine Run.val (lt rfl) (Y.assign rfl) ?_
                refine Run.to_end ?_
                refine Ex.go ?_
                refine Tr.region ?_
                refine Run.val (lt rfl) (Y.move rfl) ?_
                refine Run.val (lt rfl) (Y.idxArr rfl rfl Lives_al60 (by decide) (by decide)) ?_
                refine Run.val (lt rfl) (Y.load rfl Lives_ts46 (Kn.at 5 rfl) rfl) ?_
                refine Run.val (lt rfl) (Y.move rfl) ?_
                refine Run.call [7] (l := [.tmp 218, .tmp 219]) rfl rfl rfl (lt rfl) (tick_c (c := cB) (now := now + (e.n % 4)) hsB.inv) (fun v67 V2 H2 _ hR => ?_)
                obtain ⟨hV, rfl, rfl⟩ := hR; replace hV := hV.symm; subst hV
                refine Run.to_end ?_
                refine Ex.end_block ?_
                refine Ex.go ?_
                refine Tr.seq ?_
                refine Tr.quiet Lives_mo (by kernel_rfl) ?_
                have hokB : Con.Sd.ok 37 ⟨bB, (Con.tickC cB (now + (e.n % 4))), mB, pB, nB, kB, qB, xB, lB, aB, dB⟩ ⟨bA, cA, mA, pA, nA, kA, qA, xA, lA, aA, dA⟩ (i + 1) := hsB.tick (now + (e.n % 4))
                have hokA : Con.Sd.ok 37 ⟨bA, cA, mA, pA, nA, kA, qA, xA, lA, aA, dA⟩ ⟨bB, (Con.tickC cB (now + (e.n % 4))), mB, pB, nB, kB, qB, xB, lB, aB, dB⟩ (i + 1) := hsA.rest (Int.le_refl _)
                refine RunQ.val (lt rfl) (Y.move rfl) ?_
                refine RunQ.val (lt rfl) (Y.idxArr rfl rfl Lives_al60 (by decide) (by decide)) ?_
                refine RunQ.val (lt rfl) (Y.load rfl Lives_ts46 (Kn.at 5 rfl) rfl) ?_
                refine RunQ.call0 (l := [.tmp 249]) rfl rfl rfl (lt rfl) (other_c (c := (Con.tickC cB (now + (e.n % 4)))) (Kn.at 7 rfl)) ?_
                refine RunQ.val (lt rfl) (Y.move rfl) ?_
                refine RunQ.val (lt rfl) (Y.int (r := .int .i64 0) rfl rfl rfl) ?_
                refine RunQ.val (lt rfl) (Y.idxArr rfl rfl Lives_al24 (by decide) (by decide)) ?_
                refine RunQ.val (lt rfl) (Y.load rfl Lives_ts3 (Kn.at 4 rfl) rfl) ?_
                refine RunQ.val (lt rfl) (Y.int rfl rfl rfl) ?_
                refine RunQ.to_end ?_
                refine Ex.go ?_
                refine Tr.cond_f rfl (decide_eq_false (Int.not_lt.2 hokB.known)) ?_
                refine Tr.to_end ?_
                refine Ex.end_block ?_
                refine Ex.go ?_
                refine Tr.region ?_
                refine Run.val (lt rfl) (Y.move rfl) ?_
                refine Run.val (lt rfl) (Y.add rfl rfl (by omega)) ?_
                refine Run.val (lt rfl) (Y.assign rfl) ?_
                refine Run.to_end ?_
                refine Ex.keep [0, 0, 0, 0, 0, 0, 0, 0] ?_
                exact Ex.round ((⟨bA, cA, mA, pA, nA, kA, qA, xA, lA, aA, dA⟩ : Con.Sd), (⟨bB, (Con.tickC cB (now + (e.n % 4))), mB, pB, nB, kB, qB, xB, lB, aB, dB⟩ : Con.Sd), (now + (e.n % 4) : Int), i + 1) ⟨hokA, hokB, ⟨by show (0 : Int) ≤ now + (e.n % 4); omega, by show now + (e.n % 4) ≤ 3 * ((i + 1 : Nat) : Int); omega⟩, by show i + 1 ≤ 250; omega, by show i + 1 ≤ l.length; omega⟩ (by show l.length - (i + 1) < l.length - i; omega) rfl rfl (subB_cons (by first | rfl | exact congrArg (fun z => some (Value.int _ z)) (by omega)) (subB_cons (by first | rfl | exact congrArg (fun z => some (Value.int _ z)) (by omega)) (subB_cons (by first | rfl | exact congrArg (fun z => some (Value.int _ z)) (by omega)) (subB_cons (by first | rfl | exact congrArg (fun z => some (Value.int _ z)) (by omega)) (subB_cons (by first | rfl | exact congrArg (fun z => some (Value.int _ z)) (by omega)) (subB_cons (by first | rfl | exact congrArg (fun z => some (Value.int _ z)) (by omega)) (subB_cons (by first | rfl | exact congrArg (fun z => some (Value.int _ z)) (by omega)) (subB_nil _))))))))
              · have g66 := h66
                try simp only [kb] at g66
                refine Tr.cond_f rfl h66 ?_
                refine Tr.seq ?_
                refine Tr.region ?_
                refine Run.val (lt rfl) (Y.int rfl rfl rfl) ?_
                refine Run.val (lt rfl) (Y.assign rfl) ?_
                refine Run.to_end ?_
                refine Ex.go ?_
                rcases Bool.eq_false_or_eq_true (e.do_ == 4) with h68 | h68
                · have g68 := h68
                  try simp only [kb] at g68
                  refine Tr.cond_t rfl h68 ?_
                  refine Tr.seq ?_
                  refine Tr.region ?_
                  refine Run.val (lt rfl) (Y.move rfl) ?_
                  refine Run.val (lt rfl) (Y.idxArr rfl rfl Lives_al24 (by decide) (by decide)) ?_
                  refine Run.val (lt rfl) (Y.load rfl Lives_ts3 (Kn.at 4 rfl) rfl) ?_
                  refine Run.val (lt rfl) (Y.add rfl rfl (by omega)) ?_
                  refine Run.val (lt rfl) (Y.idxArr rfl rfl Lives_al24 (by decide) (by decide)) ?_
                  refine Run.store (s := [(b6, .cells #[.int .i64 mA, .int .i64 (mB + 1)] 24 (0, 0))]) rfl rfl Lives_sz3 (i := 4) rfl rfl (le rfl) rfl rfl ?_
                  refine Run.to_end ?_
                  refine Ex.go ?_
                  refine Tr.seq ?_
                  refine Tr.region ?_
                  refine Run.val (lt rfl) (Y.move rfl) ?_
                  refine Run.val (lt rfl) (Y.idxArr rfl rfl Lives_al24 (by decide) (by decide)) ?_
                  refine Run.val (lt rfl) (Y.load rfl Lives_ts3 (Kn.at 4 rfl) rfl) ?_
                  refine Run.call [] (l := [.tmp 231]) rfl rfl rfl (lt rfl) (new_c_yes (n := mB + 1) (by omega)) (fun v70 V2 H2 _ hR => ?_)
                  obtain ⟨hV, b69, rfl, rfl⟩ := hR; replace hV := hV.symm; subst hV
                  refine Run.val (lt rfl) (Y.move rfl) ?_
                  refine Run.val (lt rfl) (Y.extract rfl rfl) ?_
                  refine Run.val (lt rfl) (Y.extract rfl rfl) ?_
                  refine Run.val (lt rfl) (Y.assign rfl) ?_
                  refine Run.val (lt rfl) (Y.assign rfl) ?_
                  refine Run.to_end ?_
                  refine Ex.go ?_
                  refine Tr.seq ?_
                  refine Tr.seq ?_
                  refine Tr.region ?_
                  refine Run.val (lt rfl) (Y.move rfl) ?_
                  refine Run.val (lt rfl) (Y.int (r := .bool false) rfl rfl rfl) ?_
                  refine Run.val (lt rfl) (Y.move rfl) ?_
                  refine Run.on rfl rfl rfl rfl ?_
                  refine Run.val (lt rfl) (Y.move rfl) ?_
                  refine Run.on rfl rfl rfl rfl ?_
                  refine Run.val (lt rfl) (Y.eqNil rfl rfl Lives_pt46) ?_
                  refine Run.val (lt rfl) (Y.pick_f rfl rfl rfl) ?_
                  refine Run.to_end ?_
                  refine Ex.go ?_
                  refine Tr.cond_f rfl rfl ?_
                  refine Tr.to_end ?_
                  refine Ex.go ?_
                  refine Tr.seq ?_
                  refine Tr.region ?_
                  refine Run.val (lt rfl) (Y.move rfl) ?_
                  refine Run.val (lt rfl) (Y.move rfl) ?_
                  refine Run.val (lt rfl) (Y.idxArr rfl rfl Lives_al60 (by decide) (by decide)) ?_
                  refine Run.store (s := [(b5, .cells #[.pointer (some ⟨bA, 0, none⟩), .pointer (some ⟨b69, 0, none⟩)] 60 (0, 0))]) rfl rfl Lives_sz46 (i := 5) rfl rfl (le rfl) rfl rfl ?_
                  refine Run.to_end ?_
                  refine Ex.go ?_
                  refine Tr.region ?_
                  refine Run.val (lt rfl) (Y.move rfl) ?_
                  refine Run.val (lt rfl) (Y.buildA (l := []) Lives_zo24 Lives_ea24 rfl rfl) ?_
                  refine Run.val (lt rfl) (Y.idxArr rfl rfl Lives_al63 (by decide) (by decide)) ?_
                  refine Run.store (s := [(b8, .cells #[.int .i64 aA, .int .i64 dA, .int .i64 0, .int .i64 0] 63 (0, 0))]) rfl rfl Lives_sz24 (i := 2) rfl rfl (le rfl) rfl rfl ?_
                  refine Run.to_end ?_
                  refine Ex.end_block ?_
                  refine Ex.go ?_
                  refine Tr.seq ?_
                  refine Tr.quiet Lives_mo (by kernel_rfl) ?_
                  have hokB : Con.Sd.ok 37 ⟨b69, (Con.new (mB + 1)), mB + 1, pB, nB, kB, qB, xB, lB, 0, 0⟩ ⟨bA, cA, mA, pA, nA, kA, qA, xA, lA, aA, dA⟩ (i + 1) := hsB.anew (by omega) honeA
                  have hokA : Con.Sd.ok 37 ⟨bA, cA, mA, pA, nA, kA, qA, xA, lA, aA, dA⟩ ⟨b69, (Con.new (mB + 1)), mB + 1, pB, nB, kB, qB, xB, lB, 0, 0⟩ (i + 1) := hsA.rest (by show mB ≤ mB + 1; omega)
                  refine RunQ.val (lt rfl) (Y.move rfl) ?_
                  refine RunQ.val (lt rfl) (Y.idxArr rfl rfl Lives_al60 (by decide) (by decide)) ?_
                  refine RunQ.val (lt rfl) (Y.load rfl Lives_ts46 (Kn.at 5 rfl) rfl) ?_
                  refine RunQ.call0 (l := [.tmp 249]) rfl rfl rfl (lt rfl) (other_c (c := (Con.new (mB + 1))) (Kn.at 8 rfl)) ?_
                  refine RunQ.val (lt rfl) (Y.move rfl) ?_
                  refine RunQ.val (lt rfl) (Y.int (r := .int .i64 0) rfl rfl rfl) ?_
                  refine RunQ.val (lt rfl) (Y.idxArr rfl rfl Lives_al24 (by decide) (by decide)) ?_
                  refine RunQ.val (lt rfl) (Y.load rfl Lives_ts3 (Kn.at 4 rfl) rfl) ?_
                  refine RunQ.val (lt rfl) (Y.int rfl rfl rfl) ?_
                  refine RunQ.to_end ?_
                  refine Ex.go ?_
                  refine Tr.cond_f rfl (decide_eq_false (Int.not_lt.2 hokB.known)) ?_
                  refine Tr.to_end ?_
                  refine Ex.end_block ?_
                  refine Ex.go ?_
                  refine Tr.region ?_
                  refine Run.val (lt rfl) (Y.move rfl) ?_
                  refine Run.val (lt rfl) (Y.add rfl rfl (by omega)) ?_
                  refine Run.val (lt rfl) (Y.assign rfl) ?_
                  refine Run.to_end ?_
                  refine Ex.keep [0, 0, 0, 0, 0, 0, 0, 1] ?_
                  exact Ex.round ((⟨bA, cA, mA, pA, nA, kA, qA, xA, lA, aA, dA⟩ : Con.Sd), (⟨b69, (Con.new (mB + 1)), mB + 1, pB, nB, kB, qB, xB, lB, 0, 0⟩ : Con.Sd), (now : Int), i + 1) ⟨hokA, hokB, ⟨by show (0 : Int) ≤ now; omega, by show now ≤ 3 * ((i + 1 : Nat) : Int); omega⟩, by show i + 1 ≤ 250; omega, by show i + 1 ≤ l.length; omega⟩ (by show l.length - (i + 1) < l.length - i; omega) rfl rfl (subB_cons (by first | rfl | exact congrArg (fun z => some (Value.int _ z)) (by omega)) (subB_cons (by first | rfl | exact congrArg (fun z => some (Value.int _ z)) (by omega)) (subB_cons (by first | rfl | exact congrArg (fun z => some (Value.int _ z)) (by omega)) (subB_cons (by first | rfl | exact congrArg (fun z => some (Value.int _ z)) (by omega)) (subB_cons (by first | rfl | exact congrArg (fun z => some (Value.int _ z)) (by omega)) (subB_cons (by first | rfl | exact congrArg (fun z => some (Value.int _ z)) (by omega)) (subB_cons (by first | rfl | exact congrArg (fun z => some (Value.int _ z)) (by omega)) (subB_nil _))))))))
                · have g68 := h68
                  try simp only [kb] at g68
                  refine Tr.cond_f rfl h68 ?_
                  refine Tr.to_end ?_
                  refine Ex.end_block ?_
                  refine Ex.go ?_
                  refine Tr.seq ?_
                  refine Tr.quiet Lives_mo (by kernel_rfl) ?_
                  have hokB : Con.Sd.ok 37 ⟨bB, cB, mB, pB, nB, kB, qB, xB, lB, aB, dB⟩ ⟨bA, cA, mA, pA, nA, kA, qA, xA, lA, aA, dA⟩ (i + 1) := hsB.rest (Int.le_refl _)
                  have hokA : Con.Sd.ok 37 ⟨bA, cA, mA, pA, nA, kA, qA, xA, lA, aA, dA⟩ ⟨bB, cB, mB, pB, nB, kB, qB, xB, lB, aB, dB⟩ (i + 1) := hsA.rest (Int.le_refl _)
                  refine RunQ.val (lt rfl) (Y.move rfl) ?_
                  refine RunQ.val (lt rfl) (Y.idxArr rfl rfl Lives_al60 (by decide) (by decide)) ?_
                  refine RunQ.val (lt rfl) (Y.load rfl Lives_ts46 (Kn.at 5 rfl) rfl) ?_
                  refine RunQ.call0 (l := [.tmp 249]) rfl rfl rfl (lt rfl) (other_c (c := cB) (Kn.at 7 rfl)) ?_
                  refine RunQ.val (lt rfl) (Y.move rfl) ?_
                  refine RunQ.val (lt rfl) (Y.int (r := .int .i64 0) rfl rfl rfl) ?_
                  refine RunQ.val (lt rfl) (Y.idxArr rfl rfl Lives_al24 (by decide) (by decide)) ?_
                  refine RunQ.val (lt rfl) (Y.load rfl Lives_ts3 (Kn.at 4 rfl) rfl) ?_
                  refine RunQ.val (lt rfl) (Y.int rfl rfl rfl) ?_
                  refine RunQ.to_end ?_
                  refine Ex.go ?_
                  refine Tr.cond_f rfl (decide_eq_false (Int.not_lt.2 hokB.known)) ?_
                  refine Tr.to_end ?_
                  refine Ex.end_block ?_
                  refine Ex.go ?_
                  refine Tr.region ?_
                  refine Run.val (lt rfl) (Y.move rfl) ?_
                  refine Run.val (lt rfl) (Y.add rfl rfl (by omega)) ?_
                  refine Run.val (lt rfl) (Y.assign rfl) ?_
                  refine Run.to_end ?_
                  refine Ex.keep [0, 0, 0, 0, 0, 0, 0, 0] ?_
                  exact Ex.round ((⟨bA, cA, mA, pA, nA, kA, qA, xA, lA, aA, dA⟩ : Con.Sd), (⟨bB, cB, mB, pB, nB, kB, qB, xB, lB, aB, dB⟩ : Con.Sd), (now : Int), i + 1) ⟨hokA, hokB, ⟨by show (0 : Int) ≤ now; omega, by show now ≤ 3 * ((i + 1 : Nat) : Int); omega⟩, by show i + 1 ≤ 250; omega, by show i + 1 ≤ l.length; omega⟩ (by show l.length - (i + 1) < l.length - i; omega) rfl rfl (subB_cons (by first | rfl | exact congrArg (fun z => some (Value.int _ z)) (by omega)) (subB_cons (by first | rfl | exact congrArg (fun z => some (Value.int _ z)) (by omega)) (subB_cons (by first | rfl | exact congrArg (fun z => some (Value.int _ z)) (by omega)) (subB_cons (by first | rfl | exact congrArg (fun z => some (Value.int _ z)) (by omega)) (subB_cons (by first | rfl | exact congrArg (fun z => some (Value.int _ z)) (by omega)) (subB_cons (by first | rfl | exact congrArg (fun z => some (Value.int _ z)) (by omega)) (subB_cons (by first | rfl | exact congrArg (fun z => some (Value.int _ z)) (by omega)) (subB_nil _))))))))
    · have g10 := h10
      try simp only [kb] at g10
      refine Tr.cond_f rfl h10 ?_
      refine Tr.to_exit ?_
      refine Ex.exit_then ?_
      refine Ex.exit_then ?_
      refine Ex.exit_in ?_
      refine Ex.go ?_
      refine Tr.seq ?_
      refine Tr.region ?_
      refine Run.val (lt rfl) (Y.assign rfl) ?_
      refine Run.to_end ?_
      refine Ex.go ?_
      refine Tr.to_ret ?_
      refine Ex.keep [] ?_
      exact Ex.ret1 rfl rfl  rfl
  · have g9 := h9
    try simp only [kb] at g9
    refine Run.off rfl rfl rfl h9 rfl (lt rfl) ?_
    refine Run.off rfl rfl rfl h9 rfl (lt rfl) ?_
    refine Run.val (lt rfl) (Y.pick_f rfl h9 rfl) ?_
    refine Run.to_end ?_
    refine Ex.go ?_
    refine Tr.cond_f rfl rfl ?_
    refine Tr.to_exit ?_
    refine Ex.exit_then ?_
    refine Ex.exit_then ?_
    refine Ex.exit_in ?_
    refine Ex.go ?_
    refine Tr.seq ?_
    refine Tr.region ?_
    refine Run.val (lt rfl) (Y.assign rfl) ?_
    refine Run.to_end ?_
    refine Ex.go ?_
    refine Tr.to_ret ?_
    refine Ex.keep [] ?_
    exact Ex.ret1 rfl rfl  rfl

theorem lives_c {V : Vw} {l : List Con.Ev} {v0 : Value} (hv : Rd V [] 3 v0 l.length (l.map Con.Ev.cells).flatten) (hl : l.length ≤ 9223372036854775807) : Does Try.prog 9 [v0] V [] (fun v _ _ => v = .bool true) := by
  obtain ⟨p, c, rfl, _⟩ := hv.form
  exact lives_c0 hv hl
end Go.Proofs.Ytahgaaomioffhaa
