/-
  PROVED HERE: permafrostlaw24.known answers true; no condition.
-/
import Derived.Test.YtfegdgaanmcecaaGreatDoorPkN34
import Derived.Test.YtfegdgaanmcecaaGreatDoorPkN35
namespace Go.Proofs.YtfegdgaanmcecaaGreatDoor
open Go.RowKit
theorem info_raw24 : (Tryz.prog.info? 57).map (fun i => (i.zero, i.size, i.bytes)) = some (some (.agg #[.slice none 0 0]), 1, 24) := by kernel_rfl
theorem make_raw24 (w : World) : (Instr.makeSlice 22 (.int .i64 1) (.int .i64 1)).run Tryz.prog w = .ok (.slice (some ⟨w.heap.size, 0, none⟩) 1 1) (w.alloc (.cells #[.slice none 0 0] 57)) := by
 obtain ⟨i, hi, hz0, hz1, hz2⟩ := info_parts info_raw24
 have h := run_makeSlice (P := Tryz.prog) w 22 57 i (.agg #[.slice none 0 0]) Tryz.underlying22 hi hz0 .i64 .i64 1 1 (by decide) (by decide) (by rw [hz1]; decide) (by rw [hz2]; decide) (by decide)
 rw [hz1] at h
 have e : madeCells (Value.agg #[Value.slice none 0 0]).cells (Int.toNat 1 * 1) = #[.slice none 0 0] := Array.toList_inj.1 (by show (madeCells #[Value.slice none 0 0] 1).toList = _; rw [toList_madeCells_one]; rfl)
 rw [e] at h
 exact h
set_option maxRecDepth 100000 in
set_option maxHeartbeats 8000000 in
theorem known24_any (w : World) : Calls Tryz.prog 10 #[] w fun e w' => e = .returned (.bool true) ∧ New w w' := by
 have kB := (New.refl w).alloc (.cells #[.slice none 0 0] 57)
 have hR : Raws8 (w.alloc (.cells #[.slice none 0 0] 57)) (fun b => w.heap.size ≤ b) (some ⟨w.heap.size, 0, none⟩) 1 [[]] := ⟨[.slice none 0 0], Row.made w _ #[.slice none 0 0] 1 1 rfl, rfl, fun k hk => by
  obtain rfl : k = 0 := by simpa using hk
  exact ⟨none, 0, rfl, Nat.le_refl _, by decide, imgs_sl.2 (Sl.nil _ _ _ _)⟩⟩
 have HCH := Lib.hid (chain24_any _ _ 1 1 [[]] _ hR (by decide))
 have HKB := Lib.hid kB
 have hc1 := chain_make_in id24 [[]] (n := 1) (i := 0) (s := 1) (by decide) (by decide) (by decide) (by decide)
 have hc2 := chain_make_out id24 [[]] (n := 1) (s := 2) (by decide) (.inr (by decide))
 obtain ⟨r, _, hc3, hc4⟩ := chain_check id24 [[]] (n := 1) (i := 0) (s := 1) (by decide) (by decide) (by decide) (by decide)
 have hsm := chain_small id24 [[]] (n := 1) (i := 0) (by decide) 1
 have hok := chain_ok id24 [[]] 1 (by decide)
 have HID := Lib.hid id24_any
 rw [show min 1 6 = 1 from rfl] at HCH
 generalize chainProof id24 [[]] 1 0 1 = p at *
 generalize chainTo id24 [[]] 1 = s at *
 generalize hid : id24 = idv at *
 obtain ⟨im, he, al, pv, nx⟩ := s
 have hil := hok.images
 have hhl := hok.heads
 dsimp only at hil hhl hc1 hc2 hc3
 have HC1 := Lib.hid hc1
 have HC2 := Lib.hid hc2
 have HC3 := Lib.hid hc3
 have HC4 := Lib.hid hc4
 have HSM := Lib.hid hsm
 have HIL := Lib.hid hil
 have HHL := Lib.hid hhl
 clear hid hc1 hc2 hc3 hc4 hsm hil hhl hok hR kB
 go_enter Tryz.func10, Tryz.ntmps10
 have hmk := make_raw24
 go_wp2_with fail
 clear hmk
 generalize w.alloc (.cells #[.slice none 0 0] 57) = w0 at *
 refine HCH.out.mono ?_
 rintro e w1 ⟨⟨O, oc, H, hc, R, rc, rfl, ht⟩, k1⟩
 dsimp only at ht ⊢
 rw [HIL.out, HHL.out] at ht ⊢
 have HI := Lib.hid ht.imgs.imgs
 have HH := Lib.hid ht.heads.heads
 have HK1 := Lib.hid (HKB.out.new k1)
 clear ht k1 HCH
 generalize al.length = rl at *
 go_wp2_with fail
 have HM1 := make_any _ O 1 oc im 1 w1 HI.out (by decide)
 rw [HC1.out] at HM1
 refine HM1.mono ?_
 rintro e w2 ⟨⟨P1, R1, L, Pa, La, p1, r1, lc, pc, lac, rfl, hp, ho⟩, k2⟩
 dsimp only at hp ho ⊢
 have kX := k2.alloc (.cells #[.int .i64 p.head.index, .int .u64 p.head.first, .int .i64 p.head.count, .int .i64 p.head.bytes, .slice P1 p.head.prev.length p1, .slice R1 p.head.root.length r1, .int .i64 p.place, .slice L p.leaf.length lc, .slice Pa p.path.length pc, .slice La p.later.length lac] 36)
 have hX := heap_alloc_new w2 (.cells #[.int .i64 p.head.index, .int .u64 p.head.first, .int .i64 p.head.count, .int .i64 p.head.bytes, .slice P1 p.head.prev.length p1, .slice R1 p.head.root.length r1, .int .i64 p.place, .slice L p.leaf.length lc, .slice Pa p.path.length pc, .slice La p.later.length lac] 36)
 have HP := Lib.hid (hp.new ((New.refl w2).alloc (.cells #[.int .i64 p.head.index, .int .u64 p.head.first, .int .i64 p.head.count, .int .i64 p.head.bytes, .slice P1 p.head.prev.length p1, .slice R1 p.head.root.length r1, .int .i64 p.place, .slice L p.leaf.length lc, .slice Pa p.path.length pc, .slice La p.later.length lac] 36)))
 have HO := Lib.hid (ho.heads.new ((New.refl w2).alloc (.cells #[.int .i64 p.head.index, .int .u64 p.head.first, .int .i64 p.head.count, .int .i64 p.head.bytes, .slice P1 p.head.prev.length p1, .slice R1 p.head.root.length r1, .int .i64 p.place, .slice L p.leaf.length lc, .slice Pa p.path.length pc, .slice La p.later.length lac] 36)))
 clear hp ho k2 HM1
 go_upto_region 3 with fail
 generalize w2.alloc (.cells #[.int .i64 p.head.index, .int .u64 p.head.first, .int .i64 p.head.count, .int .i64 p.head.bytes, .slice P1 p.head.prev.length p1, .slice R1 p.head.root.length r1, .int .i64 p.place, .slice L p.leaf.length lc, .slice Pa p.path.length pc, .slice La p.later.length lac] 36) = w3 at *
 generalize w2.heap.size = gx at *
 refine hold_beginS (New w3.drew) (by kernel_rfl) ?_
 have HP := Lib.hid (HP.out.new (New.refl w3).drew)
 have HO := Lib.hid (HO.out.new (New.refl w3).drew)
 have HX := Lib.hid (show w3.drew.heap[gx]? = _ from hX)
 have HK3 := Lib.hid ((HK1.out.new kX).drew)
 have HI := Lib.hid (HI.out.new (kX.drew))
 have HH := Lib.hid (HH.out.new (kX.drew))
 clear hX kX
 generalize w3.drew = wd at *
 have n0 : New wd wd := New.refl wd
 have y0 : ∀ W, New wd W → W.cell? ⟨gx, 0, none⟩ = _ := fun W hW => cellOf (hW.blockAt HX.out trivial) (k := 0) rfl
 have y1 : ∀ W, New wd W → W.cell? ⟨gx, 1, none⟩ = _ := fun W hW => cellOf (hW.blockAt HX.out trivial) (k := 1) rfl
 have y2 : ∀ W, New wd W → W.cell? ⟨gx, 2, none⟩ = _ := fun W hW => cellOf (hW.blockAt HX.out trivial) (k := 2) rfl
 have y3 : ∀ W, New wd W → W.cell? ⟨gx, 3, none⟩ = _ := fun W hW => cellOf (hW.blockAt HX.out trivial) (k := 3) rfl
 have y4 : ∀ W, New wd W → W.cell? ⟨gx, 4, none⟩ = _ := fun W hW => cellOf (hW.blockAt HX.out trivial) (k := 4) rfl
 have y5 : ∀ W, New wd W → W.cell? ⟨gx, 5, none⟩ = _ := fun W hW => cellOf (hW.blockAt HX.out trivial) (k := 5) rfl
 have y6 : ∀ W, New wd W → W.cell? ⟨gx, 6, none⟩ = _ := fun W hW => cellOf (hW.blockAt HX.out trivial) (k := 6) rfl
 have y7 : ∀ W, New wd W → W.cell? ⟨gx, 7, none⟩ = _ := fun W hW => cellOf (hW.blockAt HX.out trivial) (k := 7) rfl
 have y8 : ∀ W, New wd W → W.cell? ⟨gx, 8, none⟩ = _ := fun W hW => cellOf (hW.blockAt HX.out trivial) (k := 8) rfl
 have y9 : ∀ W, New wd W → W.cell? ⟨gx, 9, none⟩ = _ := fun W hW => cellOf (hW.blockAt HX.out trivial) (k := 9) rfl
 have HHD := Lib.hid (fun W A (hB : Bs W (fun _ => True) A 16 idv) (hW : New wd W) => head18_any _ _ A H 16 16 1 hc idv he W hB (by decide) (HH.out.new hW) (by decide))
 have HCK := Lib.hid (fun W A c (hB : Bs W (fun _ => True) A 32 (headSeal idv he)) (hW : New wd W) => by have h := check_pr (c := c) (lac := lac) hB (HP.out.new hW) (HO.out.new hW) HSM.out; rw [HC3.out] at h; exact h)
 refine take0 1 n0 ?_
 refine take0 3 n0 ?_
 refine hold_place6 (fuel2 := 2) (listed2 := #[true, true, true, true, true, true, true, true, true, false, false]) (?_ : Nat → Option Addr → Option Addr → Nat → Option Addr → Nat → Act) (fun g A0 A1 c1 A2 c2 W => New wd W ∧ W.heap[g]? = some (.cells #[.int .i64 0, .int .u64 0, .slice none 0 0] 42 (0, 0)) ∧ wd.heap.size ≤ g ∧ Bs W (fun b => wd.heap.size ≤ b) A2 (r).body.length (r).body) (fun HJ3 => ?_) ?_
 rotate_left
 ·skip
  refine hold_place4 (fuel2 := 6) (listed2 := #[true, true, true, true, false, false, false, false, true, false, false]) (?_ : Nat → Option Addr → Option Addr → Nat → Act) (fun g A0 A1 c1 W => New wd W ∧ W.heap[g]? = some (.cells #[.int .i64 0, .int .u64 0, .slice none 0 0] 42 (0, 0)) ∧ wd.heap.size ≤ g ∧ Bs W (fun _ => True) A1 32 (headSeal idv he)) (fun HJ2 => ?_) ?_
  rotate_left
  ·skip
   refine hold_place2 (fuel2 := 7) (listed2 := #[true, true, false, true, false, false, false, false, true, false, false]) (?_ : Nat → Option Addr → Act) (fun g A0 W => New wd W ∧ W.heap[g]? = some (.cells #[.int .i64 0, .int .u64 0, .slice none 0 0] 42 (0, 0)) ∧ wd.heap.size ≤ g ∧ Bs W (fun _ => True) A0 16 (idv)) (fun HJ1 => ?_) ?_
   rotate_left
   ·skip
    refine hold_place1 (fuel2 := 8) (listed2 := #[false, true, false, true, false, false, false, false, true, false, false]) (?_ : Nat → Act) (fun g W => New wd W ∧ W.heap[g]? = some (.cells #[.int .i64 0, .int .u64 0, .slice none 0 0] 42 (0, 0)) ∧ wd.heap.size ≤ g) (fun HJ0 => ?_) ?_
    rotate_left
    ·skip
     refine hold_fork0 (i := 0) (j := 8) (by kernel_rfl) rfl rfl rfl rfl (fun K hK => ?_) (fun K hK => ?_)
     ·skip
      go_simp
      refine (HID.out wd).mono ?_
      rintro e v0 ⟨⟨A0, rfl, b0⟩, k0⟩
      have b0 : Bs v0 (fun _ => True) A0 16 _ := b0.imp fun _ _ _ => trivial
      go_wp2_with fail
      have m0 : New wd v0 := n0.new k0
      refine hK.out _ _ m0 ?_
      clear hK K
      try simp only [Act.put, ly1, ly2, ly3, ly4, ly5, ly6]
      refine hold_fork0 (i := 2) (j := 8) (by kernel_rfl) rfl rfl rfl rfl (fun K hK => ?_) (fun K hK => ?_)
      ·skip
       go_simp
       refine (HHD.out v0 A0 b0 m0).mono ?_
       rintro e v1 ⟨⟨A1, c1, rfl, o1⟩, k0⟩
       have b1 : Bs v1 (fun _ => True) A1 32 _ := (Row.of_own o1).imp fun _ _ _ => trivial
       go_wp2_with fail
       have m1 : New wd v1 := m0.new k0
       refine hK.out _ _ m1 ?_
       clear hK K
       try simp only [Act.put, ly1, ly2, ly3, ly4, ly5, ly6]
       refine hold_fork0 (i := 4) (j := 8) (by kernel_rfl) rfl rfl rfl rfl (fun K hK => ?_) (fun K hK => ?_)
       ·skip
        go_simp
        refine (HCK.out v1 A1 c1 b1 m1).mono ?_
        rintro e v2 ⟨⟨A2, c2, rfl, b2⟩, k0⟩
        simp only [recOr, Option.getD_some, Option.isSome_some] at b2 ⊢
        replace b2 := Row.imp b2 (E := fun b => wd.heap.size ≤ b) (fun b _ hb => Nat.le_trans (m1).size hb)
        go_wp2_with fail
        have m2 : New wd v2 := m1.new k0
        refine hK.out _ _ m2 ?_
        clear hK K
        try simp only [Act.put, ly1, ly2, ly3, ly4, ly5, ly6]
        refine take0 5 m2 ?_
        refine take0 6 m2 ?_
        refine take0 7 m2 ?_
        refine hold_step0 (i := 8) (by kernel_rfl) rfl rfl (fun K hK => ?_)
        go_simp
        go_wp2_with fail
        have kA := (New.refl v2).alloc (.cells #[.int .i64 0, .int .u64 0, .slice none 0 0] 42)
        have hA := heap_alloc_new v2 (.cells #[.int .i64 0, .int .u64 0, .slice none 0 0] 42)
        have hgl : wd.heap.size ≤ v2.heap.size := (m2).size
        have b2 := Row.new b2 kA
        have nA : New wd _ := (m2).new kA
        generalize v2.alloc (.cells #[.int .i64 0, .int .u64 0, .slice none 0 0] 42) = wA at *
        obtain ⟨gA, hgA⟩ : ∃ gA, gA = v2.heap.size := ⟨_, rfl⟩
        rw [← hgA] at hA ⊢
        replace hgl : wd.heap.size ≤ gA := by rw [hgA]; exact hgl
        refine hK.out _ _ nA ?_
        clear hK K
        try simp only [Act.put, ly1, ly2, ly3, ly4, ly5, ly6]
        refine hold_at (HJ3.out gA A0 A1 c1 A2 c2 _ ⟨nA, hA, hgl, b2⟩) ?_ rfl
        rfl
       ·skip
        go_simp
        go_wp2_with fail
        have kA := (New.refl v1).alloc (.cells #[.int .i64 0, .int .u64 0, .slice none 0 0] 42)
        have hA := heap_alloc_new v1 (.cells #[.int .i64 0, .int .u64 0, .slice none 0 0] 42)
        have hgl : wd.heap.size ≤ v1.heap.size := (m1).size
        have b1 := Row.new b1 kA
        have nA : New wd _ := (m1).new kA
        generalize v1.alloc (.cells #[.int .i64 0, .int .u64 0, .slice none 0 0] 42) = wA at *
        obtain ⟨gA, hgA⟩ : ∃ gA, gA = v1.heap.size := ⟨_, rfl⟩
        rw [← hgA] at hA ⊢
        replace hgl : wd.heap.size ≤ gA := by rw [hgA]; exact hgl
        refine hK.out _ _ nA ?_
        clear hK K
        try simp only [Act.put, ly1, ly2, ly3, ly4, ly5, ly6]
        refine hold_at (HJ2.out gA A0 A1 c1 _ ⟨nA, hA, hgl, b1⟩) ?_ rfl
        rfl
      ·skip
       go_simp
       go_wp2_with fail
       have kA := (New.refl v0).alloc (.cells #[.int .i64 0, .int .u64 0, .slice none 0 0] 42)
       have hA := heap_alloc_new v0 (.cells #[.int .i64 0, .int .u64 0, .slice none 0 0] 42)
       have hgl : wd.heap.size ≤ v0.heap.size := (m0).size
       have b0 := Row.new b0 kA
       have nA : New wd _ := (m0).new kA
       generalize v0.alloc (.cells #[.int .i64 0, .int .u64 0, .slice none 0 0] 42) = wA at *
       obtain ⟨gA, hgA⟩ : ∃ gA, gA = v0.heap.size := ⟨_, rfl⟩
       rw [← hgA] at hA ⊢
       replace hgl : wd.heap.size ≤ gA := by rw [hgA]; exact hgl
       refine hK.out _ _ nA ?_
       clear hK K
       try simp only [Act.put, ly1, ly2, ly3, ly4, ly5, ly6]
       refine hold_at (HJ1.out gA A0 _ ⟨nA, hA, hgl, b0⟩) ?_ rfl
       rfl
     ·skip
      go_simp
      go_wp2_with fail
      have kA := (New.refl wd).alloc (.cells #[.int .i64 0, .int .u64 0, .slice none 0 0] 42)
      have hA := heap_alloc_new wd (.cells #[.int .i64 0, .int .u64 0, .slice none 0 0] 42)
      have hgl : wd.heap.size ≤ wd.heap.size := (n0).size
      have nA : New wd _ := (n0).new kA
      generalize wd.alloc (.cells #[.int .i64 0, .int .u64 0, .slice none 0 0] 42) = wA at *
      obtain ⟨gA, hgA⟩ : ∃ gA, gA = wd.heap.size := ⟨_, rfl⟩
      rw [← hgA] at hA ⊢
      replace hgl : wd.heap.size ≤ gA := by rw [hgA]; exact hgl
      refine hK.out _ _ nA ?_
      clear hK K
      try simp only [Act.put, ly1, ly2, ly3, ly4, ly5, ly6]
      refine hold_at (HJ0.out gA _ ⟨nA, hA, hgl⟩) ?_ rfl
      rfl
    ·rintro g wz ⟨nz, hg, hgl⟩
     refine hold_step0 (i := 0) (by kernel_rfl) rfl rfl (fun K hK => ?_)
     go_simp
     refine (HID.out wz).mono ?_
     rintro e wy ⟨⟨A0, rfl, b0⟩, k0⟩
     have b0 : Bs wy (fun _ => True) A0 16 _ := b0.imp fun _ _ _ => trivial
     go_wp2_with fail
     have ny : New wd wy := nz.new k0
     refine hK.out _ _ ny ?_
     clear hK K
     try simp only [List.setIfInBounds_toArray, List.set_cons_zero]
     have hg := k0.blockAt hg trivial
     refine hold_at (HJ1.out g A0 _ ⟨ny, hg, hgl, b0⟩) ?_ rfl
     rfl
   ·rintro g A0 wz ⟨nz, hg, hgl, b0⟩
    refine hold_step0 (i := 2) (by kernel_rfl) rfl rfl (fun K hK => ?_)
    go_simp
    refine (HHD.out wz A0 b0 nz).mono ?_
    rintro e wy ⟨⟨A1, c1, rfl, o1⟩, k0⟩
    have b1 : Bs wy (fun _ => True) A1 32 _ := (Row.of_own o1).imp fun _ _ _ => trivial
    go_wp2_with fail
    have ny : New wd wy := nz.new k0
    refine hK.out _ _ ny ?_
    clear hK K
    try simp only [List.setIfInBounds_toArray, List.set_cons_zero, List.set_cons_succ]
    have hg := k0.blockAt hg trivial
    refine hold_at (HJ2.out g A0 A1 c1 _ ⟨ny, hg, hgl, b1⟩) ?_ rfl
    rfl
  ·rintro g A0 A1 c1 wz ⟨nz, hg, hgl, b1⟩
   refine hold_step0 (i := 4) (by kernel_rfl) rfl rfl (fun K hK => ?_)
   go_simp
   refine (HCK.out wz A1 c1 b1 nz).mono ?_
   rintro e wy ⟨⟨A2, c2, rfl, b2⟩, k0⟩
   simp only [recOr, Option.getD_some, Option.isSome_some] at b2 ⊢
   replace b2 := Row.imp b2 (E := fun b => wd.heap.size ≤ b) (fun b _ hb => Nat.le_trans (nz).size hb)
   go_wp2_with fail
   have ny : New wd wy := nz.new k0
   refine hK.out _ _ ny ?_
   clear hK K
   try simp only [List.setIfInBounds_toArray, List.set_cons_zero, List.set_cons_succ]
   have hg := k0.blockAt hg trivial
   refine take0 5 ny ?_
   refine take0 6 ny ?_
   refine take0 7 ny ?_
   refine hold_at (HJ3.out g A0 A1 c1 A2 c2 _ ⟨ny, hg, hgl, b2⟩) ?_ rfl
   rfl
 ·rintro g A0 A1 c1 A2 c2 wz ⟨nz, hg, hgl, b2⟩
  have d0 := cellOf hg (k := 0) rfl
  have z0 := frozenOf hg 0
  have d1 := cellOf hg (k := 1) rfl
  have z1 := frozenOf hg 1
  have d2 := cellOf hg (k := 2) rfl
  have z2 := frozenOf hg 2
  refine hold_step0 (i := 9) (by kernel_rfl) rfl rfl (fun K hK => ?_)
  go_simp
  have hE := set_three hg (.int .i64 (r).kind) (.int .u64 (r).seq) (.slice A2 (r).body.length c2)
  have nE := new_three nz hgl (.int .i64 (r).kind) (.int .u64 (r).seq) (.slice A2 (r).body.length c2)
  have b2a := bs_apart3 b2 hg
  have b2b : Bs (((wz.setCell ⟨g, 0, none⟩ (.int .i64 (r).kind)).setCell ⟨g, 1, none⟩ (.int .u64 (r).seq)).setCell ⟨g, 2, none⟩ (.slice A2 (r).body.length c2)) _ A2 _ _ := Row.keep b2a (((Keep.refl (fun b => b ≠ g) wz).setCell (p := ⟨g, 0, none⟩) (fun hd => absurd rfl hd) _).setCell (p := ⟨g, 1, none⟩) (fun hd => absurd rfl hd) _ |>.setCell (p := ⟨g, 2, none⟩) (fun hd => absurd rfl hd) _) (fun b _ hb => hb.2)
  refine hK.out _ _ nE ?_
  clear hK K d0 d1 d2 z0 z1 z2
  try simp only [List.setIfInBounds_toArray, List.set_cons_zero, List.set_cons_succ]
  generalize World.setCell _ _ _ = wE at *
  refine take0 10 nE ?_
  refine wpAnyH_done (by kernel_rfl) ?_ _
  clear y0 y1 y2 y3 y4 y5 y6 y7 y8 y9
  have HE := Lib.hid hE
  have HNE := Lib.hid nE
  have HGG := Lib.hid hgl
  have HBE := Lib.hid (Row.imp b2b (E := fun b => wd.heap.size ≤ b) fun _ _ hb => hb.1)
  clear hE nE b2 b2a b2b hg nz hgl n0
  go_wp2_with fail
  have HM2 := make_any _ O 1 oc im 2 wE (HI.out.new HNE.out) (by decide)
  rw [HC2.out] at HM2
  refine HM2.mono ?_
  rintro e w5 ⟨⟨P2, R2, L2, Pa2, La2, p2, r2, l2, pc2, lac2, rfl, -, -⟩, k5⟩
  dsimp only [noProof, List.length_nil]
  have e1 := cellOf ((k5.alloc (.cells #[.int .i64 0, .int .u64 0, .int .i64 0, .int .i64 0, .slice P2 0 p2, .slice R2 0 r2, .int .i64 0, .slice L2 0 l2, .slice Pa2 0 pc2, .slice La2 0 lac2] 36)).blockAt HE.out trivial) (k := 1) rfl
  rw [show r.seq = 1 from HC4.out] at e1
  have HF := Lib.hid ((HK3.out.new HNE.out).new (k5.alloc (.cells #[.int .i64 0, .int .u64 0, .int .i64 0, .int .i64 0, .slice P2 0 p2, .slice R2 0 r2, .int .i64 0, .slice L2 0 l2, .slice Pa2 0 pc2, .slice La2 0 lac2] 36)))
  go_wp2_with fail
  go_ret
  exact ⟨rfl, HF.out⟩
end Go.Proofs.YtfegdgaanmcecaaGreatDoor
