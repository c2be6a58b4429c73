/-
  PROVED HERE: chapter 18's known runs; no condition.
-/
import Derived.Test.YtpbbfbgmpidgnaaGreatDoorPkW11
import Derived.Test.YtpbbfbgmpidgnaaGreatDoorPkW25
import Derived.Test.YtpbbfbgmpidgnaaGreatDoorPkW31
import Derived.Test.YtpbbfbgmpidgnaaGreatDoorPkW32
namespace Go.Proofs.YtpbbfbgmpidgnaaGreatDoor
open Go.RowKit

theorem Heads.none (w : World) : Heads w (fun _ => True) none 0 [] := ⟨[], Row.nil _ _ _ _, rfl, fun k hk => absurd hk (by simp)⟩
theorem Imgs.none (w : World) : Imgs w (fun _ => True) none 0 [] := ⟨[], Row.nil _ _ _ _, rfl, fun k hk => absurd hk (by simp)⟩
theorem walk_nil (id : List UInt8) : walkOf id [] = ([], [], 0) := by simp [walkOf, walkIn]
/-- a condition of one's own on the worlds. -/
theorem hold_readS {P : Program} {ops : Array Oper} {Q : Exit → Act → World → Prop} {md : Region.Mode} {S : World → Prop} {i : Nat} {oi : Oper} {v : Value} {fuel : Nat} {listed : Array Bool} {a : Act} {w : World} (hS : S w) (hi : ops[i]? = some oi)
    (hs : Region.noSelect ops = true) (hf : Region.free md ops listed i = true) (hr : (Region.ready md ops listed).contains i = true)
    (hQ : ∀ c a w, Q (.panic c) (a.put oi.dst v) w → Q (.panic c) a w) (hw : Region.wanted oi (yielded ops a.tmps) = true)
    (hy : ∀ w', S w' → (execOp a.eval oi).run P w' = .ok (.value v) w')
    (h : wpAnyH P md ops Q S fuel (listed.setIfInBounds i true) (a.put oi.dst v) w) : wpAnyH P md ops Q S (fuel + 1) listed a w :=
  wpAnyH_take hi hs hf hr hQ (.inl ⟨hw, hy⟩) hS h
/-- the orders meet here, each with its condition. -/
theorem hold_meet {P : Program} {ops : Array Oper} {Q : Exit → Act → World → Prop} {md : Region.Mode} {S : World → Prop} {C : Act → World → (World → Prop) → Prop} {fuel fuel2 : Nat} {listed listed2 : Array Bool} {a : Act} {w : World} (h1 : ∀ a' w' T, C a' w' T → wpAnyH P md ops Q T fuel2 listed2 a' w')
    (h2 : Hid (∀ a' w' T, C a' w' T → wpAnyH P md ops Q T fuel2 listed2 a' w') → wpAnyH P md ops Q S fuel listed a w) : wpAnyH P md ops Q S fuel listed a w := h2 (Lib.hid h1)
theorem bs_block {w : World} {g : Nat} (h : w.heap[g]? = some (.cells #[.int .u8 105, .int .u8 100] 5 (0, 0))) : Bs w (fun _ => True) (some ⟨g, 0, none⟩) 2 [105, 100] := by
  refine ⟨rfl, fun _ => ⟨g, 0, rfl, trivial, (Array.getElem?_eq_some_iff.1 h).1, fun k u hu => ?_⟩⟩
  rw [cell_of_row _ _ _ _ _ (0, 0) h]
  simpa [byteVal, bv] using hu
theorem keep_off {w0 w w' : World} {g : Nat} (h : New w0 w) (k : Keep (fun b => b ≠ g) w w') (hg : w0.heap.size ≤ g) : New w0 w' := (Keep.trans2 (D := fun b => b < w0.heap.size) (Keep.of_new h) k (fun i _ hi e => by subst e; exact absurd hi (by omega))).toNew (fun i hi => hi)
set_option maxRecDepth 100000 in
set_option maxHeartbeats 8000000 in
theorem known18_any (w : World) : Calls Tryz.prog 16 #[] w fun e w' => e = .returned (.bool true) ∧ New w w' := by
  have hid : Bs (w.alloc (.cells #[.int .u8 105, .int .u8 100] 5)) (fun _ => True) (some ⟨w.heap.size, 0, none⟩) 2 [105, 100] := bs_block (heap_alloc_new w (.cells #[.int .u8 105, .int .u8 100] 5))
  obtain ⟨w0, e0, k0, l0⟩ := conv_mark 2 2 (heap_alloc_new w (.cells #[.int .u8 105, .int .u8 100] 5))
  have hn0 : New w w0 := keep_off ((New.refl w).alloc (.cells #[.int .u8 105, .int .u8 100] 5)) k0 (Nat.le_refl _)
  have hW := walk_any _ (fun _ => True) _ none 2 2 0 0 [105, 100] [] w0 (Row.like hid l0) (by decide) (by decide) (Imgs.none _) (by decide)
  rw [walk_nil] at hW
  have HW := Lib.hid hW
  have HN0 := Lib.hid hn0
  clear hid hW k0 l0 hn0
  go_enter Tryz.func16, Tryz.ntmps16
  go_wp2_with fail
  clear e0
  refine HW.out.mono ?_
  rintro e w1 ⟨⟨A1, c1, A2, c2, rfl, -, -⟩, hK1⟩
  have HK1 := Lib.hid (HN0.out.new hK1)
  clear HW hK1 HN0
  dsimp only [List.length_nil]
  go_wp2_with fail
  refine hold_beginS (fun _ => True) (by kernel_rfl) ?_
  have n0 : New w1 w1.drew := (New.refl w1).drew
  generalize w1.drew = wd at *
  refine hold_readS (i := 0) (v := ?_) True.intro rfl (by kernel_rfl) (by kernel_rfl) (by kernel_rfl) (fun _ _ _ h => h) rfl ?_ ?_
  rotate_left
  · intro w' h
    go_simp
    try with_reducible rfl
  simp only [Act.put, List.getElem_toArray, List.getElem_cons_zero, List.setIfInBounds_toArray, List.set_cons_zero, List.set_cons_succ]
  refine hold_readS (i := 1) (v := ?_) True.intro rfl (by kernel_rfl) (by kernel_rfl) (by kernel_rfl) (fun _ _ _ h => h) rfl ?_ ?_
  rotate_left
  · intro w' h
    go_simp
    try with_reducible rfl
  simp only [Act.put, List.getElem_toArray, List.getElem_cons_succ, List.getElem_cons_zero, List.setIfInBounds_toArray, List.set_cons_zero, List.set_cons_succ]
  refine hold_readS (i := 2) (v := ?_) True.intro rfl (by kernel_rfl) (by kernel_rfl) (by kernel_rfl) (fun _ _ _ h => h) rfl ?_ ?_
  rotate_left
  · intro w' h
    go_simp
    try with_reducible rfl
  simp only [Act.put, List.getElem_toArray, List.getElem_cons_succ, List.getElem_cons_zero, List.setIfInBounds_toArray, List.set_cons_zero, List.set_cons_succ]
  refine hold_readS (i := 3) (v := ?_) True.intro rfl (by kernel_rfl) (by kernel_rfl) (by kernel_rfl) (fun _ _ _ h => h) rfl ?_ ?_
  rotate_left
  · intro w' h
    go_simp
    try with_reducible rfl
  simp only [Act.put, List.getElem_toArray, List.getElem_cons_succ, List.getElem_cons_zero, List.setIfInBounds_toArray, List.set_cons_zero, List.set_cons_succ]
  refine hold_readS (i := 4) (v := ?_) True.intro rfl (by kernel_rfl) (by kernel_rfl) (by kernel_rfl) (fun _ _ _ h => h) rfl ?_ ?_
  rotate_left
  · intro w' h
    go_simp
    try with_reducible rfl
  simp only [Act.put, List.getElem_toArray, List.getElem_cons_succ, List.getElem_cons_zero, List.setIfInBounds_toArray, List.set_cons_zero, List.set_cons_succ]
  refine hold_readS (i := 5) (v := ?_) True.intro rfl (by kernel_rfl) (by kernel_rfl) (by kernel_rfl) (fun _ _ _ h => h) rfl ?_ ?_
  rotate_left
  · intro w' h
    go_simp
    try with_reducible rfl
  simp only [Act.put, List.getElem_toArray, List.getElem_cons_succ, List.getElem_cons_zero, List.setIfInBounds_toArray, List.set_cons_zero, List.set_cons_succ]
  refine hold_readS (i := 6) (v := ?_) True.intro rfl (by kernel_rfl) (by kernel_rfl) (by kernel_rfl) (fun _ _ _ h => h) rfl ?_ ?_
  rotate_left
  · intro w' h
    go_simp
    try with_reducible rfl
  simp only [Act.put, List.getElem_toArray, List.getElem_cons_succ, List.getElem_cons_zero, List.setIfInBounds_toArray, List.set_cons_zero, List.set_cons_succ]
  refine hold_readS (i := 7) (v := ?_) True.intro rfl (by kernel_rfl) (by kernel_rfl) (by kernel_rfl) (fun _ _ _ h => h) rfl ?_ ?_
  rotate_left
  · intro w' h
    go_simp
    try with_reducible rfl
  simp only [Act.put, List.getElem_toArray, List.getElem_cons_succ, List.getElem_cons_zero, List.setIfInBounds_toArray, List.set_cons_zero, List.set_cons_succ]
  refine hold_readS (i := 8) (v := ?_) True.intro rfl (by kernel_rfl) (by kernel_rfl) (by kernel_rfl) (fun _ _ _ h => h) rfl ?_ ?_
  rotate_left
  · intro w' h
    go_simp
    try with_reducible rfl
  simp only [Act.put, List.getElem_toArray, List.getElem_cons_succ, List.getElem_cons_zero, List.setIfInBounds_toArray, List.set_cons_zero, List.set_cons_succ]
  refine hold_readS (i := 9) (v := ?_) True.intro rfl (by kernel_rfl) (by kernel_rfl) (by kernel_rfl) (fun _ _ _ h => h) rfl ?_ ?_
  rotate_left
  · intro w' h
    go_simp
    try with_reducible rfl
  simp only [Act.put, List.getElem_toArray, List.getElem_cons_succ, List.getElem_cons_zero, List.setIfInBounds_toArray, List.set_cons_zero, List.set_cons_succ]
  refine hold_readS (i := 10) (v := ?_) True.intro rfl (by kernel_rfl) (by kernel_rfl) (by kernel_rfl) (fun _ _ _ h => h) rfl ?_ ?_
  rotate_left
  · intro w' h
    go_simp
    try with_reducible rfl
  simp only [Act.put, List.getElem_toArray, List.getElem_cons_succ, List.getElem_cons_zero, List.setIfInBounds_toArray, List.set_cons_zero, List.set_cons_succ]
  refine hold_readS (i := 11) (v := ?_) True.intro rfl (by kernel_rfl) (by kernel_rfl) (by kernel_rfl) (fun _ _ _ h => h) rfl ?_ ?_
  rotate_left
  · intro w' h
    go_simp
    try with_reducible rfl
  simp only [Act.put, List.getElem_toArray, List.getElem_cons_succ, List.getElem_cons_zero, List.setIfInBounds_toArray, List.set_cons_zero, List.set_cons_succ]
  refine hold_readS (i := 12) (v := ?_) True.intro rfl (by kernel_rfl) (by kernel_rfl) (by kernel_rfl) (fun _ _ _ h => h) rfl ?_ ?_
  rotate_left
  · intro w' h
    go_simp
    try with_reducible rfl
  simp only [Act.put, List.getElem_toArray, List.getElem_cons_succ, List.getElem_cons_zero, List.setIfInBounds_toArray, List.set_cons_zero, List.set_cons_succ]
  refine hold_meet (fuel2 := 11) (listed2 := #[true, true, true, true, true, true, true, true, true, true, true, true, true, true, true, true, true, true, true, true, true, false, false, false, false, false, false, false, false, false, false, false]) (C := fun a W T => ∃ (x24 x25 : Value) (A15 : Option Addr) (c15 : Nat) (x28 x29 : Value) (A19 : Option Addr) (c19 : Nat), a = { tmps := #[Value.bool false, Value.slice A1 0 c1, Value.slice A2 0 c2, Value.int IntKind.i64 0, Value.tuple #[Value.slice A1 0 c1, Value.slice A2 0 c2, Value.int IntKind.i64 0], Value.slice (some { block := w.heap.size, off := 0 }) 2 2, Value.slice (some { block := w.heap.size, off := 0 }) 2 2, Value.tuple #[Value.slice A1 0 c1, Value.slice A2 0 c2, Value.int IntKind.i64 0], Value.slice A1 0 c1, Value.slice A2 0 c2, Value.int IntKind.i64 0, Value.slice A1 0 c1, Value.int IntKind.i64 0, Value.bool true, Value.bool true, Value.slice A2 0 c2, Value.int IntKind.i64 0, Value.bool true, Value.bool true, Value.bool true, Value.int IntKind.i64 0, Value.bool true, Value.bool true, Value.bool true, x24, x25, Value.slice A15 32 c15, Value.string (strOf (genesisOf [105, 100])), x28, x29, Value.slice A19 32 c19, Value.string (strOf (genesisOf [105, 100])), undef, undef, undef, undef, undef, undef, undef, undef, undef, undef], defers := [] } ∧ New w1 W ∧ T = (fun W => Bs W (fun _ => True) A15 32 (genesisOf [105, 100]) ∧ Bs W (fun _ => True) A19 32 (genesisOf [105, 100])) ∧ Bs W (fun _ => True) A15 32 (genesisOf [105, 100]) ∧ Bs W (fun _ => True) A19 32 (genesisOf [105, 100])) ?_ (fun HJ => ?_)
  · rintro a wj T ⟨x24, x25, A15, c15, x28, x29, A19, c19, rfl, nj, rfl, s15, s19⟩
    refine hold_readS (i := 21) (v := ?_) ⟨s15, s19⟩ rfl (by kernel_rfl) (by kernel_rfl) (by kernel_rfl) (fun _ _ _ h => h) rfl ?_ ?_
    rotate_left
    · intro w' h
      go_simp
      try with_reducible rfl
    simp only [Act.put, List.getElem_toArray, List.getElem_cons_succ, List.getElem_cons_zero, List.setIfInBounds_toArray, List.set_cons_zero, List.set_cons_succ]
    refine hold_readS (i := 22) (v := ?_) ⟨s15, s19⟩ rfl (by kernel_rfl) (by kernel_rfl) (by kernel_rfl) (fun _ _ _ h => h) rfl ?_ ?_
    rotate_left
    · intro w' h
      go_simp
      try with_reducible rfl
    simp only [Act.put, List.getElem_toArray, List.getElem_cons_succ, List.getElem_cons_zero, List.setIfInBounds_toArray, List.set_cons_zero, List.set_cons_succ]
    refine hold_readS (i := 23) (v := ?_) ⟨s15, s19⟩ rfl (by kernel_rfl) (by kernel_rfl) (by kernel_rfl) (fun _ _ _ h => h) rfl ?_ ?_
    rotate_left
    · intro w' h
      go_simp
      try with_reducible rfl
    simp only [Act.put, List.getElem_toArray, List.getElem_cons_succ, List.getElem_cons_zero, List.setIfInBounds_toArray, List.set_cons_zero, List.set_cons_succ]
    refine hold_fork (i := 24) (j := 26) (by kernel_rfl) rfl rfl rfl rfl (fun K hK => ?_) (fun K hK => ?_)
    · skip
      go_simp
      refine (genesis_any (fun _ => True) none 0 0 [] _ (Row.nil _ _ _ _) (by decide) (by decide)).mono ?_
      rintro e w0y ⟨⟨A24, c24, rfl, o24⟩, k0⟩
      go_wp2_with fail
      rw [show genesisOf [] = shaSum [3] from rfl] at o24
      have s24 : Bs w0y (fun _ => True) A24 32 (shaSum [3]) := (Row.of_own o24).imp fun _ _ _ => trivial
      replace s15 := Row.new s15 k0
      replace s19 := Row.new s19 k0
      replace nj := nj.new k0
      clear k0 o24
      refine hK.out (fun W => Bs W (fun _ => True) A15 32 (genesisOf [105, 100]) ∧ Bs W (fun _ => True) A19 32 (genesisOf [105, 100]) ∧ Bs W (fun _ => True) A24 32 (shaSum [3])) _ _ (fun _ h => ⟨h.1, h.2.1⟩) ⟨s15, s19, s24⟩ ?_
      clear hK K
      try simp only 
      refine hold_readS (i := 25) (v := ?_) ⟨s15, s19, s24⟩ rfl (by kernel_rfl) (by kernel_rfl) (by kernel_rfl) (fun _ _ _ h => h) rfl ?_ ?_
      rotate_left
      · intro w' h
        have v1 := run_str (c := c24) (show Bs w' (fun _ => True) A24 32 (shaSum [3]) from h.2.2)
        go_simp
        try with_reducible rfl
      simp only [Act.put, List.getElem_toArray, List.getElem_cons_succ, List.getElem_cons_zero, List.setIfInBounds_toArray, List.set_cons_zero, List.set_cons_succ]
      refine hold_one (i := 26) (by kernel_rfl) rfl rfl (fun K hK => ?_)
      have k0 := (New.refl w0y).alloc (.cells #[.int .u8 3] 5)
      have b26 : Bs (w0y.alloc (.cells #[.int .u8 3] 5)) (fun b => w0y.heap.size ≤ b) (some ⟨w0y.heap.size, 0, none⟩) 1 [3] := bs_one w0y 5 3 _ rfl
      go_simp
      go_wp2_with fail
      generalize w0y.alloc (.cells #[.int .u8 3] 5) = w1y at *
      replace s15 := Row.new s15 k0
      replace s19 := Row.new s19 k0
      replace s24 := Row.new s24 k0
      replace nj := nj.new k0
      clear k0
      refine hK.out (fun W => Bs W (fun _ => True) A15 32 (genesisOf [105, 100]) ∧ Bs W (fun _ => True) A19 32 (genesisOf [105, 100]) ∧ Bs W (fun _ => True) A24 32 (shaSum [3])) _ _ (fun _ h => ⟨h.1, h.2.1, h.2.2⟩) ⟨s15, s19, s24⟩ ?_
      clear hK K
      try simp only [List.setIfInBounds_toArray, List.set_cons_zero, List.set_cons_succ]
      refine hold_one (i := 27) (by kernel_rfl) rfl rfl (fun K hK => ?_)
      go_simp
      refine (refsum_any _ _ 1 1 [3] _ b26 (by decide)).mono ?_
      rintro e w2y ⟨⟨A27, c27, rfl, o27⟩, k0⟩
      go_wp2_with fail
      have s27 : Bs w2y (fun _ => True) A27 32 (shaSum [3]) := (Row.of_own o27).imp fun _ _ _ => trivial
      clear b26
      replace s15 := Row.new s15 k0
      replace s19 := Row.new s19 k0
      replace s24 := Row.new s24 k0
      replace nj := nj.new k0
      clear k0 o27
      refine hK.out (fun W => Bs W (fun _ => True) A15 32 (genesisOf [105, 100]) ∧ Bs W (fun _ => True) A19 32 (genesisOf [105, 100]) ∧ Bs W (fun _ => True) A24 32 (shaSum [3]) ∧ Bs W (fun _ => True) A27 32 (shaSum [3])) _ _ (fun _ h => ⟨h.1, h.2.1, h.2.2.1⟩) ⟨s15, s19, s24, s27⟩ ?_
      clear hK K
      try simp only 
      refine hold_readS (i := 28) (v := ?_) ⟨s15, s19, s24, s27⟩ rfl (by kernel_rfl) (by kernel_rfl) (by kernel_rfl) (fun _ _ _ h => h) rfl ?_ ?_
      rotate_left
      · intro w' h
        have v1 := run_str (c := c27) (show Bs w' (fun _ => True) A27 32 (shaSum [3]) from h.2.2.2)
        go_simp
        try with_reducible rfl
      simp only [Act.put, List.getElem_toArray, List.getElem_cons_succ, List.getElem_cons_zero, List.setIfInBounds_toArray, List.set_cons_zero, List.set_cons_succ]
      refine hold_readS (i := 29) (v := ?_) ⟨s15, s19, s24, s27⟩ rfl (by kernel_rfl) (by kernel_rfl) (by kernel_rfl) (fun _ _ _ h => h) rfl ?_ ?_
      rotate_left
      · intro w' h
        go_simp
        try with_reducible rfl
      simp only [Act.put, List.getElem_toArray, List.getElem_cons_succ, List.getElem_cons_zero, List.setIfInBounds_toArray, List.set_cons_zero, List.set_cons_succ]
      refine hold_readS (i := 30) (v := ?_) ⟨s15, s19, s24, s27⟩ rfl (by kernel_rfl) (by kernel_rfl) (by kernel_rfl) (fun _ _ _ h => h) rfl ?_ ?_
      rotate_left
      · intro w' h
        go_simp
        try with_reducible rfl
      simp only [Act.put, List.getElem_toArray, List.getElem_cons_succ, List.getElem_cons_zero, List.setIfInBounds_toArray, List.set_cons_zero, List.set_cons_succ]
      refine hold_readS (i := 31) (v := ?_) ⟨s15, s19, s24, s27⟩ rfl (by kernel_rfl) (by kernel_rfl) (by kernel_rfl) (fun _ _ _ h => h) rfl ?_ ?_
      rotate_left
      · intro w' h
        go_simp
        try with_reducible rfl
      simp only [Act.put, List.getElem_toArray, List.getElem_cons_succ, List.getElem_cons_zero, List.setIfInBounds_toArray, List.set_cons_zero, List.set_cons_succ]
      refine wpAnyH_done (by kernel_rfl) ?_ _
      go_wp2_with fail
      go_ret
      exact ⟨rfl, HK1.out.new nj⟩
    · skip
      have k0 := (New.refl wj).alloc (.cells #[.int .u8 3] 5)
      have b26 : Bs (wj.alloc (.cells #[.int .u8 3] 5)) (fun b => wj.heap.size ≤ b) (some ⟨wj.heap.size, 0, none⟩) 1 [3] := bs_one wj 5 3 _ rfl
      go_simp
      go_wp2_with fail
      generalize wj.alloc (.cells #[.int .u8 3] 5) = w0y at *
      replace s15 := Row.new s15 k0
      replace s19 := Row.new s19 k0
      replace nj := nj.new k0
      clear k0
      refine hK.out (fun W => Bs W (fun _ => True) A15 32 (genesisOf [105, 100]) ∧ Bs W (fun _ => True) A19 32 (genesisOf [105, 100])) _ _ (fun _ h => ⟨h.1, h.2⟩) ⟨s15, s19⟩ ?_
      clear hK K
      try simp only [List.setIfInBounds_toArray, List.set_cons_zero, List.set_cons_succ]
      refine hold_one (i := 24) (by kernel_rfl) rfl rfl (fun K hK => ?_)
      go_simp
      refine (genesis_any (fun _ => True) none 0 0 [] _ (Row.nil _ _ _ _) (by decide) (by decide)).mono ?_
      rintro e w1y ⟨⟨A24, c24, rfl, o24⟩, k0⟩
      go_wp2_with fail
      rw [show genesisOf [] = shaSum [3] from rfl] at o24
      have s24 : Bs w1y (fun _ => True) A24 32 (shaSum [3]) := (Row.of_own o24).imp fun _ _ _ => trivial
      replace s15 := Row.new s15 k0
      replace s19 := Row.new s19 k0
      replace b26 := Row.new b26 k0
      replace nj := nj.new k0
      clear k0 o24
      refine hK.out (fun W => Bs W (fun _ => True) A15 32 (genesisOf [105, 100]) ∧ Bs W (fun _ => True) A19 32 (genesisOf [105, 100]) ∧ Bs W (fun _ => True) A24 32 (shaSum [3])) _ _ (fun _ h => ⟨h.1, h.2.1⟩) ⟨s15, s19, s24⟩ ?_
      clear hK K
      try simp only [List.setIfInBounds_toArray, List.set_cons_zero, List.set_cons_succ]
      refine hold_readS (i := 25) (v := ?_) ⟨s15, s19, s24⟩ rfl (by kernel_rfl) (by kernel_rfl) (by kernel_rfl) (fun _ _ _ h => h) rfl ?_ ?_
      rotate_left
      · intro w' h
        have v1 := run_str (c := c24) (show Bs w' (fun _ => True) A24 32 (shaSum [3]) from h.2.2)
        go_simp
        try with_reducible rfl
      simp only [Act.put, List.getElem_toArray, List.getElem_cons_succ, List.getElem_cons_zero, List.setIfInBounds_toArray, List.set_cons_zero, List.set_cons_succ]
      refine hold_one (i := 27) (by kernel_rfl) rfl rfl (fun K hK => ?_)
      go_simp
      refine (refsum_any _ _ 1 1 [3] _ b26 (by decide)).mono ?_
      rintro e w2y ⟨⟨A27, c27, rfl, o27⟩, k0⟩
      go_wp2_with fail
      have s27 : Bs w2y (fun _ => True) A27 32 (shaSum [3]) := (Row.of_own o27).imp fun _ _ _ => trivial
      clear b26
      replace s15 := Row.new s15 k0
      replace s19 := Row.new s19 k0
      replace s24 := Row.new s24 k0
      replace nj := nj.new k0
      clear k0 o27
      refine hK.out (fun W => Bs W (fun _ => True) A15 32 (genesisOf [105, 100]) ∧ Bs W (fun _ => True) A19 32 (genesisOf [105, 100]) ∧ Bs W (fun _ => True) A24 32 (shaSum [3]) ∧ Bs W (fun _ => True) A27 32 (shaSum [3])) _ _ (fun _ h => ⟨h.1, h.2.1, h.2.2.1⟩) ⟨s15, s19, s24, s27⟩ ?_
      clear hK K
      try simp only [List.setIfInBounds_toArray, List.set_cons_zero, List.set_cons_succ]
      refine hold_readS (i := 28) (v := ?_) ⟨s15, s19, s24, s27⟩ rfl (by kernel_rfl) (by kernel_rfl) (by kernel_rfl) (fun _ _ _ h => h) rfl ?_ ?_
      rotate_left
      · intro w' h
        have v1 := run_str (c := c27) (show Bs w' (fun _ => True) A27 32 (shaSum [3]) from h.2.2.2)
        go_simp
        try with_reducible rfl
      simp only [Act.put, List.getElem_toArray, List.getElem_cons_succ, List.getElem_cons_zero, List.setIfInBounds_toArray, List.set_cons_zero, List.set_cons_succ]
      refine hold_readS (i := 29) (v := ?_) ⟨s15, s19, s24, s27⟩ rfl (by kernel_rfl) (by kernel_rfl) (by kernel_rfl) (fun _ _ _ h => h) rfl ?_ ?_
      rotate_left
      · intro w' h
        go_simp
        try with_reducible rfl
      simp only [Act.put, List.getElem_toArray, List.getElem_cons_succ, List.getElem_cons_zero, List.setIfInBounds_toArray, List.set_cons_zero, List.set_cons_succ]
      refine hold_readS (i := 30) (v := ?_) ⟨s15, s19, s24, s27⟩ rfl (by kernel_rfl) (by kernel_rfl) (by kernel_rfl) (fun _ _ _ h => h) rfl ?_ ?_
      rotate_left
      · intro w' h
        go_simp
        try with_reducible rfl
      simp only [Act.put, List.getElem_toArray, List.getElem_cons_succ, List.getElem_cons_zero, List.setIfInBounds_toArray, List.set_cons_zero, List.set_cons_succ]
      refine hold_readS (i := 31) (v := ?_) ⟨s15, s19, s24, s27⟩ rfl (by kernel_rfl) (by kernel_rfl) (by kernel_rfl) (fun _ _ _ h => h) rfl ?_ ?_
      rotate_left
      · intro w' h
        go_simp
        try with_reducible rfl
      simp only [Act.put, List.getElem_toArray, List.getElem_cons_succ, List.getElem_cons_zero, List.setIfInBounds_toArray, List.set_cons_zero, List.set_cons_succ]
      refine wpAnyH_done (by kernel_rfl) ?_ _
      go_wp2_with fail
      go_ret
      exact ⟨rfl, HK1.out.new nj⟩
  refine hold_fork (i := 13) (j := 17) (by kernel_rfl) rfl rfl rfl rfl (fun K hK => ?_) (fun K hK => ?_)
  · skip
    have k0 := (New.refl wd).alloc (.cells #[.int .u8 105, .int .u8 100] 5)
    have h13 := heap_alloc_new wd (.cells #[.int .u8 105, .int .u8 100] 5)
    have q13 : w1.heap.size ≤ wd.heap.size := n0.size
    go_simp
    go_wp2_with fail
    generalize wd.alloc (.cells #[.int .u8 105, .int .u8 100] 5) = w0x at *
    generalize wd.heap.size = g13 at *
    replace n0 := n0.new k0
    clear k0
    refine hK.out (fun _ => True) _ _ (fun _ _ => True.intro) True.intro ?_
    clear hK K
    try simp only [Act.put, List.getElem_toArray, List.getElem_cons_succ, List.getElem_cons_zero, List.setIfInBounds_toArray, List.set_cons_zero, List.set_cons_succ]
    refine hold_fork (i := 14) (j := 17) (by kernel_rfl) rfl rfl rfl rfl (fun K hK => ?_) (fun K hK => ?_)
    · skip
      obtain ⟨w1x, e0, k0, l0⟩ := conv_mark 2 2 h13
      have b13 : Bs w0x (fun _ => True) (some ⟨g13, 0, none⟩) 2 [105, 100] := bs_block h13
      go_simp
      go_wp2_with fail
      replace b13 := Row.like b13 l0
      replace n0 := keep_off n0 k0 q13
      clear e0 k0 l0 h13 q13
      refine hK.out (fun _ => True) _ _ (fun _ _ => True.intro) True.intro ?_
      clear hK K
      try simp only [Act.put, List.getElem_toArray, List.getElem_cons_succ, List.getElem_cons_zero, List.setIfInBounds_toArray, List.set_cons_zero, List.set_cons_succ]
      refine hold_fork (i := 15) (j := 17) (by kernel_rfl) rfl rfl rfl rfl (fun K hK => ?_) (fun K hK => ?_)
      · skip
        go_simp
        refine (head_any _ (fun _ => True) _ none 2 2 0 0 [105, 100] [] _ b13 (by decide) (by decide) (Heads.none _) (by decide)).mono ?_
        rintro e w2x ⟨⟨A15, c15, rfl, o15⟩, k0⟩
        go_wp2_with fail
        rw [headSeal_nil] at o15
        have s15 : Bs w2x (fun _ => True) A15 32 (genesisOf [105, 100]) := (Row.of_own o15).imp fun _ _ _ => trivial
        replace n0 := n0.new k0
        clear b13 o15
        clear k0
        refine hK.out (fun W => Bs W (fun _ => True) A15 32 (genesisOf [105, 100])) _ _ (fun _ _ => True.intro) s15 ?_
        clear hK K
        try simp only [Act.put, List.getElem_toArray, List.getElem_cons_succ, List.getElem_cons_zero, List.setIfInBounds_toArray, List.set_cons_zero, List.set_cons_succ]
        refine hold_readS (i := 16) (v := ?_) s15 rfl (by kernel_rfl) (by kernel_rfl) (by kernel_rfl) (fun _ _ _ h => h) rfl ?_ ?_
        rotate_left
        · intro w' h
          have v1 := run_str (c := c15) (show Bs w' (fun _ => True) A15 32 (genesisOf [105, 100]) from h)
          go_simp
          try with_reducible rfl
        simp only [Act.put, List.getElem_toArray, List.getElem_cons_succ, List.getElem_cons_zero, List.setIfInBounds_toArray, List.set_cons_zero, List.set_cons_succ]
        refine hold_one (i := 17) (by kernel_rfl) rfl rfl (fun K hK => ?_)
        have k0 := (New.refl w2x).alloc (.cells #[.int .u8 105, .int .u8 100] 5)
        have h17 := heap_alloc_new w2x (.cells #[.int .u8 105, .int .u8 100] 5)
        have q17 : w1.heap.size ≤ w2x.heap.size := n0.size
        go_simp
        go_wp2_with fail
        generalize w2x.alloc (.cells #[.int .u8 105, .int .u8 100] 5) = w3x at *
        generalize w2x.heap.size = g17 at *
        replace n0 := n0.new k0
        replace s15 := Row.new s15 k0
        clear k0
        refine hK.out (fun W => Bs W (fun _ => True) A15 32 (genesisOf [105, 100])) _ _ (fun _ h => h) s15 ?_
        clear hK K
        try simp only [Act.put, List.getElem_toArray, List.getElem_cons_succ, List.getElem_cons_zero, List.setIfInBounds_toArray, List.set_cons_zero, List.set_cons_succ]
        refine hold_one (i := 18) (by kernel_rfl) rfl rfl (fun K hK => ?_)
        obtain ⟨w4x, e0, k0, l0⟩ := conv_mark 2 2 h17
        have b17 : Bs w3x (fun _ => True) (some ⟨g17, 0, none⟩) 2 [105, 100] := bs_block h17
        go_simp
        go_wp2_with fail
        replace b17 := Row.like b17 l0
        replace n0 := keep_off n0 k0 q17
        replace s15 := Row.like s15 l0
        clear e0 k0 l0 h17 q17
        refine hK.out (fun W => Bs W (fun _ => True) A15 32 (genesisOf [105, 100])) _ _ (fun _ h => h) s15 ?_
        clear hK K
        try simp only [Act.put, List.getElem_toArray, List.getElem_cons_succ, List.getElem_cons_zero, List.setIfInBounds_toArray, List.set_cons_zero, List.set_cons_succ]
        refine hold_one (i := 19) (by kernel_rfl) rfl rfl (fun K hK => ?_)
        go_simp
        refine (genesis_any _ _ 2 2 [105, 100] _ b17 (by decide) (by decide)).mono ?_
        rintro e w5x ⟨⟨A19, c19, rfl, o19⟩, k0⟩
        go_wp2_with fail
        have s19 : Bs w5x (fun _ => True) A19 32 (genesisOf [105, 100]) := (Row.of_own o19).imp fun _ _ _ => trivial
        replace n0 := n0.new k0
        clear b17 o19
        replace s15 := Row.new s15 k0
        clear k0
        refine hK.out (fun W => Bs W (fun _ => True) A15 32 (genesisOf [105, 100]) ∧ Bs W (fun _ => True) A19 32 (genesisOf [105, 100])) _ _ (fun _ h => h.1) ⟨s15, s19⟩ ?_
        clear hK K
        try simp only [Act.put, List.getElem_toArray, List.getElem_cons_succ, List.getElem_cons_zero, List.setIfInBounds_toArray, List.set_cons_zero, List.set_cons_succ]
        refine hold_readS (i := 20) (v := ?_) ⟨s15, s19⟩ rfl (by kernel_rfl) (by kernel_rfl) (by kernel_rfl) (fun _ _ _ h => h) rfl ?_ ?_
        rotate_left
        · intro w' h
          have v1 := run_str (c := c19) (show Bs w' (fun _ => True) A19 32 (genesisOf [105, 100]) from h.2)
          go_simp
          try with_reducible rfl
        simp only [Act.put, List.getElem_toArray, List.getElem_cons_succ, List.getElem_cons_zero, List.setIfInBounds_toArray, List.set_cons_zero, List.set_cons_succ]
        exact hold_strong (by kernel_rfl) (fun _ h => h) (HJ.out _ _ _ ⟨_, _, A15, c15, _, _, A19, c19, rfl, n0, rfl, s15, s19⟩)
      · skip
        have k0 := (New.refl w1x).alloc (.cells #[.int .u8 105, .int .u8 100] 5)
        have h17 := heap_alloc_new w1x (.cells #[.int .u8 105, .int .u8 100] 5)
        have q17 : w1.heap.size ≤ w1x.heap.size := n0.size
        go_simp
        go_wp2_with fail
        generalize w1x.alloc (.cells #[.int .u8 105, .int .u8 100] 5) = w2x at *
        generalize w1x.heap.size = g17 at *
        replace n0 := n0.new k0
        replace b13 := Row.new b13 k0
        clear k0
        refine hK.out (fun _ => True) _ _ (fun _ _ => True.intro) True.intro ?_
        clear hK K
        try simp only [Act.put, List.getElem_toArray, List.getElem_cons_succ, List.getElem_cons_zero, List.setIfInBounds_toArray, List.set_cons_zero, List.set_cons_succ]
        refine hold_fork (i := 15) (j := 18) (by kernel_rfl) rfl rfl rfl rfl (fun K hK => ?_) (fun K hK => ?_)
        · skip
          go_simp
          refine (head_any _ (fun _ => True) _ none 2 2 0 0 [105, 100] [] _ b13 (by decide) (by decide) (Heads.none _) (by decide)).mono ?_
          rintro e w3x ⟨⟨A15, c15, rfl, o15⟩, k0⟩
          go_wp2_with fail
          rw [headSeal_nil] at o15
          have s15 : Bs w3x (fun _ => True) A15 32 (genesisOf [105, 100]) := (Row.of_own o15).imp fun _ _ _ => trivial
          replace n0 := n0.new k0
          replace h17 := k0.blockAt h17 trivial
          clear b13 o15
          clear k0
          refine hK.out (fun W => Bs W (fun _ => True) A15 32 (genesisOf [105, 100])) _ _ (fun _ _ => True.intro) s15 ?_
          clear hK K
          try simp only [Act.put, List.getElem_toArray, List.getElem_cons_succ, List.getElem_cons_zero, List.setIfInBounds_toArray, List.set_cons_zero, List.set_cons_succ]
          refine hold_readS (i := 16) (v := ?_) s15 rfl (by kernel_rfl) (by kernel_rfl) (by kernel_rfl) (fun _ _ _ h => h) rfl ?_ ?_
          rotate_left
          · intro w' h
            have v1 := run_str (c := c15) (show Bs w' (fun _ => True) A15 32 (genesisOf [105, 100]) from h)
            go_simp
            try with_reducible rfl
          simp only [Act.put, List.getElem_toArray, List.getElem_cons_succ, List.getElem_cons_zero, List.setIfInBounds_toArray, List.set_cons_zero, List.set_cons_succ]
          refine hold_one (i := 18) (by kernel_rfl) rfl rfl (fun K hK => ?_)
          obtain ⟨w4x, e0, k0, l0⟩ := conv_mark 2 2 h17
          have b17 : Bs w3x (fun _ => True) (some ⟨g17, 0, none⟩) 2 [105, 100] := bs_block h17
          go_simp
          go_wp2_with fail
          replace b17 := Row.like b17 l0
          replace n0 := keep_off n0 k0 q17
          replace s15 := Row.like s15 l0
          clear e0 k0 l0 h17 q17
          refine hK.out (fun W => Bs W (fun _ => True) A15 32 (genesisOf [105, 100])) _ _ (fun _ h => h) s15 ?_
          clear hK K
          try simp only [Act.put, List.getElem_toArray, List.getElem_cons_succ, List.getElem_cons_zero, List.setIfInBounds_toArray, List.set_cons_zero, List.set_cons_succ]
          refine hold_one (i := 19) (by kernel_rfl) rfl rfl (fun K hK => ?_)
          go_simp
          refine (genesis_any _ _ 2 2 [105, 100] _ b17 (by decide) (by decide)).mono ?_
          rintro e w5x ⟨⟨A19, c19, rfl, o19⟩, k0⟩
          go_wp2_with fail
          have s19 : Bs w5x (fun _ => True) A19 32 (genesisOf [105, 100]) := (Row.of_own o19).imp fun _ _ _ => trivial
          replace n0 := n0.new k0
          clear b17 o19
          replace s15 := Row.new s15 k0
          clear k0
          refine hK.out (fun W => Bs W (fun _ => True) A15 32 (genesisOf [105, 100]) ∧ Bs W (fun _ => True) A19 32 (genesisOf [105, 100])) _ _ (fun _ h => h.1) ⟨s15, s19⟩ ?_
          clear hK K
          try simp only [Act.put, List.getElem_toArray, List.getElem_cons_succ, List.getElem_cons_zero, List.setIfInBounds_toArray, List.set_cons_zero, List.set_cons_succ]
          refine hold_readS (i := 20) (v := ?_) ⟨s15, s19⟩ rfl (by kernel_rfl) (by kernel_rfl) (by kernel_rfl) (fun _ _ _ h => h) rfl ?_ ?_
          rotate_left
          · intro w' h
            have v1 := run_str (c := c19) (show Bs w' (fun _ => True) A19 32 (genesisOf [105, 100]) from h.2)
            go_simp
            try with_reducible rfl
          simp only [Act.put, List.getElem_toArray, List.getElem_cons_succ, List.getElem_cons_zero, List.setIfInBounds_toArray, List.set_cons_zero, List.set_cons_succ]
          exact hold_strong (by kernel_rfl) (fun _ h => h) (HJ.out _ _ _ ⟨_, _, A15, c15, _, _, A19, c19, rfl, n0, rfl, s15, s19⟩)
        · skip
          obtain ⟨w3x, e0, k0, l0⟩ := conv_mark 2 2 h17
          have b17 : Bs w2x (fun _ => True) (some ⟨g17, 0, none⟩) 2 [105, 100] := bs_block h17
          go_simp
          go_wp2_with fail
          replace b17 := Row.like b17 l0
          replace n0 := keep_off n0 k0 q17
          replace b13 := Row.like b13 l0
          clear e0 k0 l0 h17 q17
          refine hK.out (fun _ => True) _ _ (fun _ _ => True.intro) True.intro ?_
          clear hK K
          try simp only [Act.put, List.getElem_toArray, List.getElem_cons_succ, List.getElem_cons_zero, List.setIfInBounds_toArray, List.set_cons_zero, List.set_cons_succ]
          refine hold_one (i := 15) (by kernel_rfl) rfl rfl (fun K hK => ?_)
          go_simp
          refine (head_any _ (fun _ => True) _ none 2 2 0 0 [105, 100] [] _ b13 (by decide) (by decide) (Heads.none _) (by decide)).mono ?_
          rintro e w4x ⟨⟨A15, c15, rfl, o15⟩, k0⟩
          go_wp2_with fail
          rw [headSeal_nil] at o15
          have s15 : Bs w4x (fun _ => True) A15 32 (genesisOf [105, 100]) := (Row.of_own o15).imp fun _ _ _ => trivial
          replace n0 := n0.new k0
          clear b13 o15
          replace b17 := Row.new b17 k0
          clear k0
          refine hK.out (fun W => Bs W (fun _ => True) A15 32 (genesisOf [105, 100])) _ _ (fun _ _ => True.intro) s15 ?_
          clear hK K
          try simp only [Act.put, List.getElem_toArray, List.getElem_cons_succ, List.getElem_cons_zero, List.setIfInBounds_toArray, List.set_cons_zero, List.set_cons_succ]
          refine hold_readS (i := 16) (v := ?_) s15 rfl (by kernel_rfl) (by kernel_rfl) (by kernel_rfl) (fun _ _ _ h => h) rfl ?_ ?_
          rotate_left
          · intro w' h
            have v1 := run_str (c := c15) (show Bs w' (fun _ => True) A15 32 (genesisOf [105, 100]) from h)
            go_simp
            try with_reducible rfl
          simp only [Act.put, List.getElem_toArray, List.getElem_cons_succ, List.getElem_cons_zero, List.setIfInBounds_toArray, List.set_cons_zero, List.set_cons_succ]
          refine hold_one (i := 19) (by kernel_rfl) rfl rfl (fun K hK => ?_)
          go_simp
          refine (genesis_any _ _ 2 2 [105, 100] _ b17 (by decide) (by decide)).mono ?_
          rintro e w5x ⟨⟨A19, c19, rfl, o19⟩, k0⟩
          go_wp2_with fail
          have s19 : Bs w5x (fun _ => True) A19 32 (genesisOf [105, 100]) := (Row.of_own o19).imp fun _ _ _ => trivial
          replace n0 := n0.new k0
          clear b17 o19
          replace s15 := Row.new s15 k0
          clear k0
          refine hK.out (fun W => Bs W (fun _ => True) A15 32 (genesisOf [105, 100]) ∧ Bs W (fun _ => True) A19 32 (genesisOf [105, 100])) _ _ (fun _ h => h.1) ⟨s15, s19⟩ ?_
          clear hK K
          try simp only [Act.put, List.getElem_toArray, List.getElem_cons_succ, List.getElem_cons_zero, List.setIfInBounds_toArray, List.set_cons_zero, List.set_cons_succ]
          refine hold_readS (i := 20) (v := ?_) ⟨s15, s19⟩ rfl (by kernel_rfl) (by kernel_rfl) (by kernel_rfl) (fun _ _ _ h => h) rfl ?_ ?_
          rotate_left
          · intro w' h
            have v1 := run_str (c := c19) (show Bs w' (fun _ => True) A19 32 (genesisOf [105, 100]) from h.2)
            go_simp
            try with_reducible rfl
          simp only [Act.put, List.getElem_toArray, List.getElem_cons_succ, List.getElem_cons_zero, List.setIfInBounds_toArray, List.set_cons_zero, List.set_cons_succ]
          exact hold_strong (by kernel_rfl) (fun _ h => h) (HJ.out _ _ _ ⟨_, _, A15, c15, _, _, A19, c19, rfl, n0, rfl, s15, s19⟩)
    · skip
      have k0 := (New.refl w0x).alloc (.cells #[.int .u8 105, .int .u8 100] 5)
      have h17 := heap_alloc_new w0x (.cells #[.int .u8 105, .int .u8 100] 5)
      have q17 : w1.heap.size ≤ w0x.heap.size := n0.size
      have d17 : g13 ≠ w0x.heap.size := fun e => by have := (Array.getElem?_eq_some_iff.1 h13).1; omega
      go_simp
      go_wp2_with fail
      generalize w0x.alloc (.cells #[.int .u8 105, .int .u8 100] 5) = w1x at *
      generalize w0x.heap.size = g17 at *
      replace n0 := n0.new k0
      replace h13 := k0.blockAt h13 trivial
      clear k0
      refine hK.out (fun _ => True) _ _ (fun _ _ => True.intro) True.intro ?_
      clear hK K
      try simp only [Act.put, List.getElem_toArray, List.getElem_cons_succ, List.getElem_cons_zero, List.setIfInBounds_toArray, List.set_cons_zero, List.set_cons_succ]
      refine hold_fork (i := 14) (j := 18) (by kernel_rfl) rfl rfl rfl rfl (fun K hK => ?_) (fun K hK => ?_)
      · skip
        obtain ⟨w2x, e0, k0, l0⟩ := conv_mark 2 2 h13
        have b13 : Bs w1x (fun _ => True) (some ⟨g13, 0, none⟩) 2 [105, 100] := bs_block h13
        go_simp
        go_wp2_with fail
        replace b13 := Row.like b13 l0
        replace n0 := keep_off n0 k0 q13
        replace h17 := k0.blockAt h17 (by first | exact d13 | exact fun e => d17 e.symm)
        clear e0 k0 l0 h13 q13
        try clear d13
        try clear d17
        refine hK.out (fun _ => True) _ _ (fun _ _ => True.intro) True.intro ?_
        clear hK K
        try simp only [Act.put, List.getElem_toArray, List.getElem_cons_succ, List.getElem_cons_zero, List.setIfInBounds_toArray, List.set_cons_zero, List.set_cons_succ]
        refine hold_fork (i := 15) (j := 18) (by kernel_rfl) rfl rfl rfl rfl (fun K hK => ?_) (fun K hK => ?_)
        · skip
          go_simp
          refine (head_any _ (fun _ => True) _ none 2 2 0 0 [105, 100] [] _ b13 (by decide) (by decide) (Heads.none _) (by decide)).mono ?_
          rintro e w3x ⟨⟨A15, c15, rfl, o15⟩, k0⟩
          go_wp2_with fail
          rw [headSeal_nil] at o15
          have s15 : Bs w3x (fun _ => True) A15 32 (genesisOf [105, 100]) := (Row.of_own o15).imp fun _ _ _ => trivial
          replace n0 := n0.new k0
          replace h17 := k0.blockAt h17 trivial
          clear b13 o15
          clear k0
          refine hK.out (fun W => Bs W (fun _ => True) A15 32 (genesisOf [105, 100])) _ _ (fun _ _ => True.intro) s15 ?_
          clear hK K
          try simp only [Act.put, List.getElem_toArray, List.getElem_cons_succ, List.getElem_cons_zero, List.setIfInBounds_toArray, List.set_cons_zero, List.set_cons_succ]
          refine hold_readS (i := 16) (v := ?_) s15 rfl (by kernel_rfl) (by kernel_rfl) (by kernel_rfl) (fun _ _ _ h => h) rfl ?_ ?_
          rotate_left
          · intro w' h
            have v1 := run_str (c := c15) (show Bs w' (fun _ => True) A15 32 (genesisOf [105, 100]) from h)
            go_simp
            try with_reducible rfl
          simp only [Act.put, List.getElem_toArray, List.getElem_cons_succ, List.getElem_cons_zero, List.setIfInBounds_toArray, List.set_cons_zero, List.set_cons_succ]
          refine hold_one (i := 18) (by kernel_rfl) rfl rfl (fun K hK => ?_)
          obtain ⟨w4x, e0, k0, l0⟩ := conv_mark 2 2 h17
          have b17 : Bs w3x (fun _ => True) (some ⟨g17, 0, none⟩) 2 [105, 100] := bs_block h17
          go_simp
          go_wp2_with fail
          replace b17 := Row.like b17 l0
          replace n0 := keep_off n0 k0 q17
          replace s15 := Row.like s15 l0
          clear e0 k0 l0 h17 q17
          refine hK.out (fun W => Bs W (fun _ => True) A15 32 (genesisOf [105, 100])) _ _ (fun _ h => h) s15 ?_
          clear hK K
          try simp only [Act.put, List.getElem_toArray, List.getElem_cons_succ, List.getElem_cons_zero, List.setIfInBounds_toArray, List.set_cons_zero, List.set_cons_succ]
          refine hold_one (i := 19) (by kernel_rfl) rfl rfl (fun K hK => ?_)
          go_simp
          refine (genesis_any _ _ 2 2 [105, 100] _ b17 (by decide) (by decide)).mono ?_
          rintro e w5x ⟨⟨A19, c19, rfl, o19⟩, k0⟩
          go_wp2_with fail
          have s19 : Bs w5x (fun _ => True) A19 32 (genesisOf [105, 100]) := (Row.of_own o19).imp fun _ _ _ => trivial
          replace n0 := n0.new k0
          clear b17 o19
          replace s15 := Row.new s15 k0
          clear k0
          refine hK.out (fun W => Bs W (fun _ => True) A15 32 (genesisOf [105, 100]) ∧ Bs W (fun _ => True) A19 32 (genesisOf [105, 100])) _ _ (fun _ h => h.1) ⟨s15, s19⟩ ?_
          clear hK K
          try simp only [Act.put, List.getElem_toArray, List.getElem_cons_succ, List.getElem_cons_zero, List.setIfInBounds_toArray, List.set_cons_zero, List.set_cons_succ]
          refine hold_readS (i := 20) (v := ?_) ⟨s15, s19⟩ rfl (by kernel_rfl) (by kernel_rfl) (by kernel_rfl) (fun _ _ _ h => h) rfl ?_ ?_
          rotate_left
          · intro w' h
            have v1 := run_str (c := c19) (show Bs w' (fun _ => True) A19 32 (genesisOf [105, 100]) from h.2)
            go_simp
            try with_reducible rfl
          simp only [Act.put, List.getElem_toArray, List.getElem_cons_succ, List.getElem_cons_zero, List.setIfInBounds_toArray, List.set_cons_zero, List.set_cons_succ]
          exact hold_strong (by kernel_rfl) (fun _ h => h) (HJ.out _ _ _ ⟨_, _, A15, c15, _, _, A19, c19, rfl, n0, rfl, s15, s19⟩)
        · skip
          obtain ⟨w3x, e0, k0, l0⟩ := conv_mark 2 2 h17
          have b17 : Bs w2x (fun _ => True) (some ⟨g17, 0, none⟩) 2 [105, 100] := bs_block h17
          go_simp
          go_wp2_with fail
          replace b17 := Row.like b17 l0
          replace n0 := keep_off n0 k0 q17
          replace b13 := Row.like b13 l0
          clear e0 k0 l0 h17 q17
          refine hK.out (fun _ => True) _ _ (fun _ _ => True.intro) True.intro ?_
          clear hK K
          try simp only [Act.put, List.getElem_toArray, List.getElem_cons_succ, List.getElem_cons_zero, List.setIfInBounds_toArray, List.set_cons_zero, List.set_cons_succ]
          refine hold_one (i := 15) (by kernel_rfl) rfl rfl (fun K hK => ?_)
          go_simp
          refine (head_any _ (fun _ => True) _ none 2 2 0 0 [105, 100] [] _ b13 (by decide) (by decide) (Heads.none _) (by decide)).mono ?_
          rintro e w4x ⟨⟨A15, c15, rfl, o15⟩, k0⟩
          go_wp2_with fail
          rw [headSeal_nil] at o15
          have s15 : Bs w4x (fun _ => True) A15 32 (genesisOf [105, 100]) := (Row.of_own o15).imp fun _ _ _ => trivial
          replace n0 := n0.new k0
          clear b13 o15
          replace b17 := Row.new b17 k0
          clear k0
          refine hK.out (fun W => Bs W (fun _ => True) A15 32 (genesisOf [105, 100])) _ _ (fun _ _ => True.intro) s15 ?_
          clear hK K
          try simp only [Act.put, List.getElem_toArray, List.getElem_cons_succ, List.getElem_cons_zero, List.setIfInBounds_toArray, List.set_cons_zero, List.set_cons_succ]
          refine hold_readS (i := 16) (v := ?_) s15 rfl (by kernel_rfl) (by kernel_rfl) (by kernel_rfl) (fun _ _ _ h => h) rfl ?_ ?_
          rotate_left
          · intro w' h
            have v1 := run_str (c := c15) (show Bs w' (fun _ => True) A15 32 (genesisOf [105, 100]) from h)
            go_simp
            try with_reducible rfl
          simp only [Act.put, List.getElem_toArray, List.getElem_cons_succ, List.getElem_cons_zero, List.setIfInBounds_toArray, List.set_cons_zero, List.set_cons_succ]
          refine hold_one (i := 19) (by kernel_rfl) rfl rfl (fun K hK => ?_)
          go_simp
          refine (genesis_any _ _ 2 2 [105, 100] _ b17 (by decide) (by decide)).mono ?_
          rintro e w5x ⟨⟨A19, c19, rfl, o19⟩, k0⟩
          go_wp2_with fail
          have s19 : Bs w5x (fun _ => True) A19 32 (genesisOf [105, 100]) := (Row.of_own o19).imp fun _ _ _ => trivial
          replace n0 := n0.new k0
          clear b17 o19
          replace s15 := Row.new s15 k0
          clear k0
          refine hK.out (fun W => Bs W (fun _ => True) A15 32 (genesisOf [105, 100]) ∧ Bs W (fun _ => True) A19 32 (genesisOf [105, 100])) _ _ (fun _ h => h.1) ⟨s15, s19⟩ ?_
          clear hK K
          try simp only [Act.put, List.getElem_toArray, List.getElem_cons_succ, List.getElem_cons_zero, List.setIfInBounds_toArray, List.set_cons_zero, List.set_cons_succ]
          refine hold_readS (i := 20) (v := ?_) ⟨s15, s19⟩ rfl (by kernel_rfl) (by kernel_rfl) (by kernel_rfl) (fun _ _ _ h => h) rfl ?_ ?_
          rotate_left
          · intro w' h
            have v1 := run_str (c := c19) (show Bs w' (fun _ => True) A19 32 (genesisOf [105, 100]) from h.2)
            go_simp
            try with_reducible rfl
          simp only [Act.put, List.getElem_toArray, List.getElem_cons_succ, List.getElem_cons_zero, List.setIfInBounds_toArray, List.set_cons_zero, List.set_cons_succ]
          exact hold_strong (by kernel_rfl) (fun _ h => h) (HJ.out _ _ _ ⟨_, _, A15, c15, _, _, A19, c19, rfl, n0, rfl, s15, s19⟩)
      · skip
        obtain ⟨w2x, e0, k0, l0⟩ := conv_mark 2 2 h17
        have b17 : Bs w1x (fun _ => True) (some ⟨g17, 0, none⟩) 2 [105, 100] := bs_block h17
        go_simp
        go_wp2_with fail
        replace b17 := Row.like b17 l0
        replace n0 := keep_off n0 k0 q17
        replace h13 := k0.blockAt h13 (by first | exact d17 | exact fun e => d13 e.symm)
        clear e0 k0 l0 h17 q17
        try clear d13
        try clear d17
        refine hK.out (fun _ => True) _ _ (fun _ _ => True.intro) True.intro ?_
        clear hK K
        try simp only [Act.put, List.getElem_toArray, List.getElem_cons_succ, List.getElem_cons_zero, List.setIfInBounds_toArray, List.set_cons_zero, List.set_cons_succ]
        refine hold_one (i := 14) (by kernel_rfl) rfl rfl (fun K hK => ?_)
        obtain ⟨w3x, e0, k0, l0⟩ := conv_mark 2 2 h13
        have b13 : Bs w2x (fun _ => True) (some ⟨g13, 0, none⟩) 2 [105, 100] := bs_block h13
        go_simp
        go_wp2_with fail
        replace b13 := Row.like b13 l0
        replace n0 := keep_off n0 k0 q13
        replace b17 := Row.like b17 l0
        clear e0 k0 l0 h13 q13
        refine hK.out (fun _ => True) _ _ (fun _ _ => True.intro) True.intro ?_
        clear hK K
        try simp only [Act.put, List.getElem_toArray, List.getElem_cons_succ, List.getElem_cons_zero, List.setIfInBounds_toArray, List.set_cons_zero, List.set_cons_succ]
        refine hold_one (i := 15) (by kernel_rfl) rfl rfl (fun K hK => ?_)
        go_simp
        refine (head_any _ (fun _ => True) _ none 2 2 0 0 [105, 100] [] _ b13 (by decide) (by decide) (Heads.none _) (by decide)).mono ?_
        rintro e w4x ⟨⟨A15, c15, rfl, o15⟩, k0⟩
        go_wp2_with fail
        rw [headSeal_nil] at o15
        have s15 : Bs w4x (fun _ => True) A15 32 (genesisOf [105, 100]) := (Row.of_own o15).imp fun _ _ _ => trivial
        replace n0 := n0.new k0
        clear b13 o15
        replace b17 := Row.new b17 k0
        clear k0
        refine hK.out (fun W => Bs W (fun _ => True) A15 32 (genesisOf [105, 100])) _ _ (fun _ _ => True.intro) s15 ?_
        clear hK K
        try simp only [Act.put, List.getElem_toArray, List.getElem_cons_succ, List.getElem_cons_zero, List.setIfInBounds_toArray, List.set_cons_zero, List.set_cons_succ]
        refine hold_readS (i := 16) (v := ?_) s15 rfl (by kernel_rfl) (by kernel_rfl) (by kernel_rfl) (fun _ _ _ h => h) rfl ?_ ?_
        rotate_left
        · intro w' h
          have v1 := run_str (c := c15) (show Bs w' (fun _ => True) A15 32 (genesisOf [105, 100]) from h)
          go_simp
          try with_reducible rfl
        simp only [Act.put, List.getElem_toArray, List.getElem_cons_succ, List.getElem_cons_zero, List.setIfInBounds_toArray, List.set_cons_zero, List.set_cons_succ]
        refine hold_one (i := 19) (by kernel_rfl) rfl rfl (fun K hK => ?_)
        go_simp
        refine (genesis_any _ _ 2 2 [105, 100] _ b17 (by decide) (by decide)).mono ?_
        rintro e w5x ⟨⟨A19, c19, rfl, o19⟩, k0⟩
        go_wp2_with fail
        have s19 : Bs w5x (fun _ => True) A19 32 (genesisOf [105, 100]) := (Row.of_own o19).imp fun _ _ _ => trivial
        replace n0 := n0.new k0
        clear b17 o19
        replace s15 := Row.new s15 k0
        clear k0
        refine hK.out (fun W => Bs W (fun _ => True) A15 32 (genesisOf [105, 100]) ∧ Bs W (fun _ => True) A19 32 (genesisOf [105, 100])) _ _ (fun _ h => h.1) ⟨s15, s19⟩ ?_
        clear hK K
        try simp only [Act.put, List.getElem_toArray, List.getElem_cons_succ, List.getElem_cons_zero, List.setIfInBounds_toArray, List.set_cons_zero, List.set_cons_succ]
        refine hold_readS (i := 20) (v := ?_) ⟨s15, s19⟩ rfl (by kernel_rfl) (by kernel_rfl) (by kernel_rfl) (fun _ _ _ h => h) rfl ?_ ?_
        rotate_left
        · intro w' h
          have v1 := run_str (c := c19) (show Bs w' (fun _ => True) A19 32 (genesisOf [105, 100]) from h.2)
          go_simp
          try with_reducible rfl
        simp only [Act.put, List.getElem_toArray, List.getElem_cons_succ, List.getElem_cons_zero, List.setIfInBounds_toArray, List.set_cons_zero, List.set_cons_succ]
        exact hold_strong (by kernel_rfl) (fun _ h => h) (HJ.out _ _ _ ⟨_, _, A15, c15, _, _, A19, c19, rfl, n0, rfl, s15, s19⟩)
  · skip
    have k0 := (New.refl wd).alloc (.cells #[.int .u8 105, .int .u8 100] 5)
    have h17 := heap_alloc_new wd (.cells #[.int .u8 105, .int .u8 100] 5)
    have q17 : w1.heap.size ≤ wd.heap.size := n0.size
    go_simp
    go_wp2_with fail
    generalize wd.alloc (.cells #[.int .u8 105, .int .u8 100] 5) = w0x at *
    generalize wd.heap.size = g17 at *
    replace n0 := n0.new k0
    clear k0
    refine hK.out (fun _ => True) _ _ (fun _ _ => True.intro) True.intro ?_
    clear hK K
    try simp only [Act.put, List.getElem_toArray, List.getElem_cons_succ, List.getElem_cons_zero, List.setIfInBounds_toArray, List.set_cons_zero, List.set_cons_succ]
    refine hold_fork (i := 13) (j := 18) (by kernel_rfl) rfl rfl rfl rfl (fun K hK => ?_) (fun K hK => ?_)
    · skip
      have k0 := (New.refl w0x).alloc (.cells #[.int .u8 105, .int .u8 100] 5)
      have h13 := heap_alloc_new w0x (.cells #[.int .u8 105, .int .u8 100] 5)
      have q13 : w1.heap.size ≤ w0x.heap.size := n0.size
      have d13 : g17 ≠ w0x.heap.size := fun e => by have := (Array.getElem?_eq_some_iff.1 h17).1; omega
      go_simp
      go_wp2_with fail
      generalize w0x.alloc (.cells #[.int .u8 105, .int .u8 100] 5) = w1x at *
      generalize w0x.heap.size = g13 at *
      replace n0 := n0.new k0
      replace h17 := k0.blockAt h17 trivial
      clear k0
      refine hK.out (fun _ => True) _ _ (fun _ _ => True.intro) True.intro ?_
      clear hK K
      try simp only [Act.put, List.getElem_toArray, List.getElem_cons_succ, List.getElem_cons_zero, List.setIfInBounds_toArray, List.set_cons_zero, List.set_cons_succ]
      refine hold_fork (i := 14) (j := 18) (by kernel_rfl) rfl rfl rfl rfl (fun K hK => ?_) (fun K hK => ?_)
      · skip
        obtain ⟨w2x, e0, k0, l0⟩ := conv_mark 2 2 h13
        have b13 : Bs w1x (fun _ => True) (some ⟨g13, 0, none⟩) 2 [105, 100] := bs_block h13
        go_simp
        go_wp2_with fail
        replace b13 := Row.like b13 l0
        replace n0 := keep_off n0 k0 q13
        replace h17 := k0.blockAt h17 (by first | exact d13 | exact fun e => d17 e.symm)
        clear e0 k0 l0 h13 q13
        try clear d13
        try clear d17
        refine hK.out (fun _ => True) _ _ (fun _ _ => True.intro) True.intro ?_
        clear hK K
        try simp only [Act.put, List.getElem_toArray, List.getElem_cons_succ, List.getElem_cons_zero, List.setIfInBounds_toArray, List.set_cons_zero, List.set_cons_succ]
        refine hold_fork (i := 15) (j := 18) (by kernel_rfl) rfl rfl rfl rfl (fun K hK => ?_) (fun K hK => ?_)
        · skip
          go_simp
          refine (head_any _ (fun _ => True) _ none 2 2 0 0 [105, 100] [] _ b13 (by decide) (by decide) (Heads.none _) (by decide)).mono ?_
          rintro e w3x ⟨⟨A15, c15, rfl, o15⟩, k0⟩
          go_wp2_with fail
          rw [headSeal_nil] at o15
          have s15 : Bs w3x (fun _ => True) A15 32 (genesisOf [105, 100]) := (Row.of_own o15).imp fun _ _ _ => trivial
          replace n0 := n0.new k0
          replace h17 := k0.blockAt h17 trivial
          clear b13 o15
          clear k0
          refine hK.out (fun W => Bs W (fun _ => True) A15 32 (genesisOf [105, 100])) _ _ (fun _ _ => True.intro) s15 ?_
          clear hK K
          try simp only [Act.put, List.getElem_toArray, List.getElem_cons_succ, List.getElem_cons_zero, List.setIfInBounds_toArray, List.set_cons_zero, List.set_cons_succ]
          refine hold_readS (i := 16) (v := ?_) s15 rfl (by kernel_rfl) (by kernel_rfl) (by kernel_rfl) (fun _ _ _ h => h) rfl ?_ ?_
          rotate_left
          · intro w' h
            have v1 := run_str (c := c15) (show Bs w' (fun _ => True) A15 32 (genesisOf [105, 100]) from h)
            go_simp
            try with_reducible rfl
          simp only [Act.put, List.getElem_toArray, List.getElem_cons_succ, List.getElem_cons_zero, List.setIfInBounds_toArray, List.set_cons_zero, List.set_cons_succ]
          refine hold_one (i := 18) (by kernel_rfl) rfl rfl (fun K hK => ?_)
          obtain ⟨w4x, e0, k0, l0⟩ := conv_mark 2 2 h17
          have b17 : Bs w3x (fun _ => True) (some ⟨g17, 0, none⟩) 2 [105, 100] := bs_block h17
          go_simp
          go_wp2_with fail
          replace b17 := Row.like b17 l0
          replace n0 := keep_off n0 k0 q17
          replace s15 := Row.like s15 l0
          clear e0 k0 l0 h17 q17
          refine hK.out (fun W => Bs W (fun _ => True) A15 32 (genesisOf [105, 100])) _ _ (fun _ h => h) s15 ?_
          clear hK K
          try simp only [Act.put, List.getElem_toArray, List.getElem_cons_succ, List.getElem_cons_zero, List.setIfInBounds_toArray, List.set_cons_zero, List.set_cons_succ]
          refine hold_one (i := 19) (by kernel_rfl) rfl rfl (fun K hK => ?_)
          go_simp
          refine (genesis_any _ _ 2 2 [105, 100] _ b17 (by decide) (by decide)).mono ?_
          rintro e w5x ⟨⟨A19, c19, rfl, o19⟩, k0⟩
          go_wp2_with fail
          have s19 : Bs w5x (fun _ => True) A19 32 (genesisOf [105, 100]) := (Row.of_own o19).imp fun _ _ _ => trivial
          replace n0 := n0.new k0
          clear b17 o19
          replace s15 := Row.new s15 k0
          clear k0
          refine hK.out (fun W => Bs W (fun _ => True) A15 32 (genesisOf [105, 100]) ∧ Bs W (fun _ => True) A19 32 (genesisOf [105, 100])) _ _ (fun _ h => h.1) ⟨s15, s19⟩ ?_
          clear hK K
          try simp only [Act.put, List.getElem_toArray, List.getElem_cons_succ, List.getElem_cons_zero, List.setIfInBounds_toArray, List.set_cons_zero, List.set_cons_succ]
          refine hold_readS (i := 20) (v := ?_) ⟨s15, s19⟩ rfl (by kernel_rfl) (by kernel_rfl) (by kernel_rfl) (fun _ _ _ h => h) rfl ?_ ?_
          rotate_left
          · intro w' h
            have v1 := run_str (c := c19) (show Bs w' (fun _ => True) A19 32 (genesisOf [105, 100]) from h.2)
            go_simp
            try with_reducible rfl
          simp only [Act.put, List.getElem_toArray, List.getElem_cons_succ, List.getElem_cons_zero, List.setIfInBounds_toArray, List.set_cons_zero, List.set_cons_succ]
          exact hold_strong (by kernel_rfl) (fun _ h => h) (HJ.out _ _ _ ⟨_, _, A15, c15, _, _, A19, c19, rfl, n0, rfl, s15, s19⟩)
        · skip
          obtain ⟨w3x, e0, k0, l0⟩ := conv_mark 2 2 h17
          have b17 : Bs w2x (fun _ => True) (some ⟨g17, 0, none⟩) 2 [105, 100] := bs_block h17
          go_simp
          go_wp2_with fail
          replace b17 := Row.like b17 l0
          replace n0 := keep_off n0 k0 q17
          replace b13 := Row.like b13 l0
          clear e0 k0 l0 h17 q17
          refine hK.out (fun _ => True) _ _ (fun _ _ => True.intro) True.intro ?_
          clear hK K
          try simp only [Act.put, List.getElem_toArray, List.getElem_cons_succ, List.getElem_cons_zero, List.setIfInBounds_toArray, List.set_cons_zero, List.set_cons_succ]
          refine hold_one (i := 15) (by kernel_rfl) rfl rfl (fun K hK => ?_)
          go_simp
          refine (head_any _ (fun _ => True) _ none 2 2 0 0 [105, 100] [] _ b13 (by decide) (by decide) (Heads.none _) (by decide)).mono ?_
          rintro e w4x ⟨⟨A15, c15, rfl, o15⟩, k0⟩
          go_wp2_with fail
          rw [headSeal_nil] at o15
          have s15 : Bs w4x (fun _ => True) A15 32 (genesisOf [105, 100]) := (Row.of_own o15).imp fun _ _ _ => trivial
          replace n0 := n0.new k0
          clear b13 o15
          replace b17 := Row.new b17 k0
          clear k0
          refine hK.out (fun W => Bs W (fun _ => True) A15 32 (genesisOf [105, 100])) _ _ (fun _ _ => True.intro) s15 ?_
          clear hK K
          try simp only [Act.put, List.getElem_toArray, List.getElem_cons_succ, List.getElem_cons_zero, List.setIfInBounds_toArray, List.set_cons_zero, List.set_cons_succ]
          refine hold_readS (i := 16) (v := ?_) s15 rfl (by kernel_rfl) (by kernel_rfl) (by kernel_rfl) (fun _ _ _ h => h) rfl ?_ ?_
          rotate_left
          · intro w' h
            have v1 := run_str (c := c15) (show Bs w' (fun _ => True) A15 32 (genesisOf [105, 100]) from h)
            go_simp
            try with_reducible rfl
          simp only [Act.put, List.getElem_toArray, List.getElem_cons_succ, List.getElem_cons_zero, List.setIfInBounds_toArray, List.set_cons_zero, List.set_cons_succ]
          refine hold_one (i := 19) (by kernel_rfl) rfl rfl (fun K hK => ?_)
          go_simp
          refine (genesis_any _ _ 2 2 [105, 100] _ b17 (by decide) (by decide)).mono ?_
          rintro e w5x ⟨⟨A19, c19, rfl, o19⟩, k0⟩
          go_wp2_with fail
          have s19 : Bs w5x (fun _ => True) A19 32 (genesisOf [105, 100]) := (Row.of_own o19).imp fun _ _ _ => trivial
          replace n0 := n0.new k0
          clear b17 o19
          replace s15 := Row.new s15 k0
          clear k0
          refine hK.out (fun W => Bs W (fun _ => True) A15 32 (genesisOf [105, 100]) ∧ Bs W (fun _ => True) A19 32 (genesisOf [105, 100])) _ _ (fun _ h => h.1) ⟨s15, s19⟩ ?_
          clear hK K
          try simp only [Act.put, List.getElem_toArray, List.getElem_cons_succ, List.getElem_cons_zero, List.setIfInBounds_toArray, List.set_cons_zero, List.set_cons_succ]
          refine hold_readS (i := 20) (v := ?_) ⟨s15, s19⟩ rfl (by kernel_rfl) (by kernel_rfl) (by kernel_rfl) (fun _ _ _ h => h) rfl ?_ ?_
          rotate_left
          · intro w' h
            have v1 := run_str (c := c19) (show Bs w' (fun _ => True) A19 32 (genesisOf [105, 100]) from h.2)
            go_simp
            try with_reducible rfl
          simp only [Act.put, List.getElem_toArray, List.getElem_cons_succ, List.getElem_cons_zero, List.setIfInBounds_toArray, List.set_cons_zero, List.set_cons_succ]
          exact hold_strong (by kernel_rfl) (fun _ h => h) (HJ.out _ _ _ ⟨_, _, A15, c15, _, _, A19, c19, rfl, n0, rfl, s15, s19⟩)
      · skip
        obtain ⟨w2x, e0, k0, l0⟩ := conv_mark 2 2 h17
        have b17 : Bs w1x (fun _ => True) (some ⟨g17, 0, none⟩) 2 [105, 100] := bs_block h17
        go_simp
        go_wp2_with fail
        replace b17 := Row.like b17 l0
        replace n0 := keep_off n0 k0 q17
        replace h13 := k0.blockAt h13 (by first | exact d17 | exact fun e => d13 e.symm)
        clear e0 k0 l0 h17 q17
        try clear d13
        try clear d17
        refine hK.out (fun _ => True) _ _ (fun _ _ => True.intro) True.intro ?_
        clear hK K
        try simp only [Act.put, List.getElem_toArray, List.getElem_cons_succ, List.getElem_cons_zero, List.setIfInBounds_toArray, List.set_cons_zero, List.set_cons_succ]
        refine hold_one (i := 14) (by kernel_rfl) rfl rfl (fun K hK => ?_)
        obtain ⟨w3x, e0, k0, l0⟩ := conv_mark 2 2 h13
        have b13 : Bs w2x (fun _ => True) (some ⟨g13, 0, none⟩) 2 [105, 100] := bs_block h13
        go_simp
        go_wp2_with fail
        replace b13 := Row.like b13 l0
        replace n0 := keep_off n0 k0 q13
        replace b17 := Row.like b17 l0
        clear e0 k0 l0 h13 q13
        refine hK.out (fun _ => True) _ _ (fun _ _ => True.intro) True.intro ?_
        clear hK K
        try simp only [Act.put, List.getElem_toArray, List.getElem_cons_succ, List.getElem_cons_zero, List.setIfInBounds_toArray, List.set_cons_zero, List.set_cons_succ]
        refine hold_one (i := 15) (by kernel_rfl) rfl rfl (fun K hK => ?_)
        go_simp
        refine (head_any _ (fun _ => True) _ none 2 2 0 0 [105, 100] [] _ b13 (by decide) (by decide) (Heads.none _) (by decide)).mono ?_
        rintro e w4x ⟨⟨A15, c15, rfl, o15⟩, k0⟩
        go_wp2_with fail
        rw [headSeal_nil] at o15
        have s15 : Bs w4x (fun _ => True) A15 32 (genesisOf [105, 100]) := (Row.of_own o15).imp fun _ _ _ => trivial
        replace n0 := n0.new k0
        clear b13 o15
        replace b17 := Row.new b17 k0
        clear k0
        refine hK.out (fun W => Bs W (fun _ => True) A15 32 (genesisOf [105, 100])) _ _ (fun _ _ => True.intro) s15 ?_
        clear hK K
        try simp only [Act.put, List.getElem_toArray, List.getElem_cons_succ, List.getElem_cons_zero, List.setIfInBounds_toArray, List.set_cons_zero, List.set_cons_succ]
        refine hold_readS (i := 16) (v := ?_) s15 rfl (by kernel_rfl) (by kernel_rfl) (by kernel_rfl) (fun _ _ _ h => h) rfl ?_ ?_
        rotate_left
        · intro w' h
          have v1 := run_str (c := c15) (show Bs w' (fun _ => True) A15 32 (genesisOf [105, 100]) from h)
          go_simp
          try with_reducible rfl
        simp only [Act.put, List.getElem_toArray, List.getElem_cons_succ, List.getElem_cons_zero, List.setIfInBounds_toArray, List.set_cons_zero, List.set_cons_succ]
        refine hold_one (i := 19) (by kernel_rfl) rfl rfl (fun K hK => ?_)
        go_simp
        refine (genesis_any _ _ 2 2 [105, 100] _ b17 (by decide) (by decide)).mono ?_
        rintro e w5x ⟨⟨A19, c19, rfl, o19⟩, k0⟩
        go_wp2_with fail
        have s19 : Bs w5x (fun _ => True) A19 32 (genesisOf [105, 100]) := (Row.of_own o19).imp fun _ _ _ => trivial
        replace n0 := n0.new k0
        clear b17 o19
        replace s15 := Row.new s15 k0
        clear k0
        refine hK.out (fun W => Bs W (fun _ => True) A15 32 (genesisOf [105, 100]) ∧ Bs W (fun _ => True) A19 32 (genesisOf [105, 100])) _ _ (fun _ h => h.1) ⟨s15, s19⟩ ?_
        clear hK K
        try simp only [Act.put, List.getElem_toArray, List.getElem_cons_succ, List.getElem_cons_zero, List.setIfInBounds_toArray, List.set_cons_zero, List.set_cons_succ]
        refine hold_readS (i := 20) (v := ?_) ⟨s15, s19⟩ rfl (by kernel_rfl) (by kernel_rfl) (by kernel_rfl) (fun _ _ _ h => h) rfl ?_ ?_
        rotate_left
        · intro w' h
          have v1 := run_str (c := c19) (show Bs w' (fun _ => True) A19 32 (genesisOf [105, 100]) from h.2)
          go_simp
          try with_reducible rfl
        simp only [Act.put, List.getElem_toArray, List.getElem_cons_succ, List.getElem_cons_zero, List.setIfInBounds_toArray, List.set_cons_zero, List.set_cons_succ]
        exact hold_strong (by kernel_rfl) (fun _ h => h) (HJ.out _ _ _ ⟨_, _, A15, c15, _, _, A19, c19, rfl, n0, rfl, s15, s19⟩)
    · skip
      obtain ⟨w1x, e0, k0, l0⟩ := conv_mark 2 2 h17
      have b17 : Bs w0x (fun _ => True) (some ⟨g17, 0, none⟩) 2 [105, 100] := bs_block h17
      go_simp
      go_wp2_with fail
      replace b17 := Row.like b17 l0
      replace n0 := keep_off n0 k0 q17
      clear e0 k0 l0 h17 q17
      refine hK.out (fun _ => True) _ _ (fun _ _ => True.intro) True.intro ?_
      clear hK K
      try simp only [Act.put, List.getElem_toArray, List.getElem_cons_succ, List.getElem_cons_zero, List.setIfInBounds_toArray, List.set_cons_zero, List.set_cons_succ]
      refine hold_one (i := 13) (by kernel_rfl) rfl rfl (fun K hK => ?_)
      have k0 := (New.refl w1x).alloc (.cells #[.int .u8 105, .int .u8 100] 5)
      have h13 := heap_alloc_new w1x (.cells #[.int .u8 105, .int .u8 100] 5)
      have q13 : w1.heap.size ≤ w1x.heap.size := n0.size
      go_simp
      go_wp2_with fail
      generalize w1x.alloc (.cells #[.int .u8 105, .int .u8 100] 5) = w2x at *
      generalize w1x.heap.size = g13 at *
      replace n0 := n0.new k0
      replace b17 := Row.new b17 k0
      clear k0
      refine hK.out (fun _ => True) _ _ (fun _ _ => True.intro) True.intro ?_
      clear hK K
      try simp only [Act.put, List.getElem_toArray, List.getElem_cons_succ, List.getElem_cons_zero, List.setIfInBounds_toArray, List.set_cons_zero, List.set_cons_succ]
      refine hold_one (i := 14) (by kernel_rfl) rfl rfl (fun K hK => ?_)
      obtain ⟨w3x, e0, k0, l0⟩ := conv_mark 2 2 h13
      have b13 : Bs w2x (fun _ => True) (some ⟨g13, 0, none⟩) 2 [105, 100] := bs_block h13
      go_simp
      go_wp2_with fail
      replace b13 := Row.like b13 l0
      replace n0 := keep_off n0 k0 q13
      replace b17 := Row.like b17 l0
      clear e0 k0 l0 h13 q13
      refine hK.out (fun _ => True) _ _ (fun _ _ => True.intro) True.intro ?_
      clear hK K
      try simp only [Act.put, List.getElem_toArray, List.getElem_cons_succ, List.getElem_cons_zero, List.setIfInBounds_toArray, List.set_cons_zero, List.set_cons_succ]
      refine hold_one (i := 15) (by kernel_rfl) rfl rfl (fun K hK => ?_)
      go_simp
      refine (head_any _ (fun _ => True) _ none 2 2 0 0 [105, 100] [] _ b13 (by decide) (by decide) (Heads.none _) (by decide)).mono ?_
      rintro e w4x ⟨⟨A15, c15, rfl, o15⟩, k0⟩
      go_wp2_with fail
      rw [headSeal_nil] at o15
      have s15 : Bs w4x (fun _ => True) A15 32 (genesisOf [105, 100]) := (Row.of_own o15).imp fun _ _ _ => trivial
      replace n0 := n0.new k0
      clear b13 o15
      replace b17 := Row.new b17 k0
      clear k0
      refine hK.out (fun W => Bs W (fun _ => True) A15 32 (genesisOf [105, 100])) _ _ (fun _ _ => True.intro) s15 ?_
      clear hK K
      try simp only [Act.put, List.getElem_toArray, List.getElem_cons_succ, List.getElem_cons_zero, List.setIfInBounds_toArray, List.set_cons_zero, List.set_cons_succ]
      refine hold_readS (i := 16) (v := ?_) s15 rfl (by kernel_rfl) (by kernel_rfl) (by kernel_rfl) (fun _ _ _ h => h) rfl ?_ ?_
      rotate_left
      · intro w' h
        have v1 := run_str (c := c15) (show Bs w' (fun _ => True) A15 32 (genesisOf [105, 100]) from h)
        go_simp
        try with_reducible rfl
      simp only [Act.put, List.getElem_toArray, List.getElem_cons_succ, List.getElem_cons_zero, List.setIfInBounds_toArray, List.set_cons_zero, List.set_cons_succ]
      refine hold_one (i := 19) (by kernel_rfl) rfl rfl (fun K hK => ?_)
      go_simp
      refine (genesis_any _ _ 2 2 [105, 100] _ b17 (by decide) (by decide)).mono ?_
      rintro e w5x ⟨⟨A19, c19, rfl, o19⟩, k0⟩
      go_wp2_with fail
      have s19 : Bs w5x (fun _ => True) A19 32 (genesisOf [105, 100]) := (Row.of_own o19).imp fun _ _ _ => trivial
      replace n0 := n0.new k0
      clear b17 o19
      replace s15 := Row.new s15 k0
      clear k0
      refine hK.out (fun W => Bs W (fun _ => True) A15 32 (genesisOf [105, 100]) ∧ Bs W (fun _ => True) A19 32 (genesisOf [105, 100])) _ _ (fun _ h => h.1) ⟨s15, s19⟩ ?_
      clear hK K
      try simp only [Act.put, List.getElem_toArray, List.getElem_cons_succ, List.getElem_cons_zero, List.setIfInBounds_toArray, List.set_cons_zero, List.set_cons_succ]
      refine hold_readS (i := 20) (v := ?_) ⟨s15, s19⟩ rfl (by kernel_rfl) (by kernel_rfl) (by kernel_rfl) (fun _ _ _ h => h) rfl ?_ ?_
      rotate_left
      · intro w' h
        have v1 := run_str (c := c19) (show Bs w' (fun _ => True) A19 32 (genesisOf [105, 100]) from h.2)
        go_simp
        try with_reducible rfl
      simp only [Act.put, List.getElem_toArray, List.getElem_cons_succ, List.getElem_cons_zero, List.setIfInBounds_toArray, List.set_cons_zero, List.set_cons_succ]
      exact hold_strong (by kernel_rfl) (fun _ h => h) (HJ.out _ _ _ ⟨_, _, A15, c15, _, _, A19, c19, rfl, n0, rfl, s15, s19⟩)
end Go.Proofs.YtpbbfbgmpidgnaaGreatDoor
