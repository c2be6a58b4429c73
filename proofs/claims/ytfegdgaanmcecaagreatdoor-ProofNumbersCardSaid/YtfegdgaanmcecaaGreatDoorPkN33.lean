/-
  PROVED HERE: what permafrostlaw24.in and out answer; condition: at most a million heads.
-/
import Derived.Test.YtfegdgaanmcecaaGreatDoorPkN31
import Derived.Test.YtfegdgaanmcecaaGreatDoorPkN32
namespace Go.Proofs.YtfegdgaanmcecaaGreatDoor
open Go.RowKit
set_option maxRecDepth 100000 in
set_option maxHeartbeats 4000000 in
theorem in24_any (D : Nat → Prop) (P1 R1 L Pa La : Option Addr) (p1 r1 lc pc q lac : Nat) (p : ProofP) (w : World) (hLa : Heads w D La q p.later) (hq : q ≤ 1000000) :
  Calls Tryz.prog 18 #[.agg #[.int .i64 p.head.index, .int .u64 p.head.first, .int .i64 p.head.count, .int .i64 p.head.bytes, .slice P1 p.head.prev.length p1, .slice R1 p.head.root.length r1, .int .i64 p.place, .slice L p.leaf.length lc, .slice Pa p.path.length pc, .slice La q lac]] w fun e w' => (∃ A c, e = .returned (.agg #[.int .i64 p.head.index, .int .u64 p.head.first, .int .i64 p.head.count, .int .i64 p.head.bytes, .slice P1 p.head.prev.length p1, .slice R1 p.head.root.length r1, .int .i64 p.place, .slice L p.leaf.length lc, .slice Pa p.path.length pc, .slice A q c]) ∧ OwnHeadsR w' w.heap.size (fun b => b < w.heap.size) A q c p.later) ∧ New w w' := by
 have kB : New w ((w.alloc (.cells #[.int .i64 p.head.index, .int .u64 p.head.first, .int .i64 p.head.count, .int .i64 p.head.bytes, .slice P1 p.head.prev.length p1, .slice R1 p.head.root.length r1, .int .i64 p.place, .slice L p.leaf.length lc, .slice Pa p.path.length pc, .slice La q lac] 36)).alloc (.cells #[.int .i64 0, .int .u64 0, .int .i64 0, .int .i64 0, .slice none 0 0, .slice none 0 0, .int .i64 0, .slice none 0 0, .slice none 0 0, .slice none 0 0] 50)) := ((New.refl w).alloc _).alloc _
 have hG := heap_alloc_new (w.alloc (.cells #[.int .i64 p.head.index, .int .u64 p.head.first, .int .i64 p.head.count, .int .i64 p.head.bytes, .slice P1 p.head.prev.length p1, .slice R1 p.head.root.length r1, .int .i64 p.place, .slice L p.leaf.length lc, .slice Pa p.path.length pc, .slice La q lac] 36)) (.cells #[.int .i64 0, .int .u64 0, .int .i64 0, .int .i64 0, .slice none 0 0, .slice none 0 0, .int .i64 0, .slice none 0 0, .slice none 0 0, .slice none 0 0] 50)
 rw [World.size_alloc] at hG
 have hX := ((New.refl (w.alloc (.cells #[.int .i64 p.head.index, .int .u64 p.head.first, .int .i64 p.head.count, .int .i64 p.head.bytes, .slice P1 p.head.prev.length p1, .slice R1 p.head.root.length r1, .int .i64 p.place, .slice L p.leaf.length lc, .slice Pa p.path.length pc, .slice La q lac] 36))).alloc (.cells #[.int .i64 0, .int .u64 0, .int .i64 0, .int .i64 0, .slice none 0 0, .slice none 0 0, .int .i64 0, .slice none 0 0, .slice none 0 0, .slice none 0 0] 50)).blockAt (heap_alloc_new w (.cells #[.int .i64 p.head.index, .int .u64 p.head.first, .int .i64 p.head.count, .int .i64 p.head.bytes, .slice P1 p.head.prev.length p1, .slice R1 p.head.root.length r1, .int .i64 p.place, .slice L p.leaf.length lc, .slice Pa p.path.length pc, .slice La q lac] 36)) trivial
 have HSZ : Hid (((w.alloc (.cells #[.int .i64 p.head.index, .int .u64 p.head.first, .int .i64 p.head.count, .int .i64 p.head.bytes, .slice P1 p.head.prev.length p1, .slice R1 p.head.root.length r1, .int .i64 p.place, .slice L p.leaf.length lc, .slice Pa p.path.length pc, .slice La q lac] 36)).alloc (.cells #[.int .i64 0, .int .u64 0, .int .i64 0, .int .i64 0, .slice none 0 0, .slice none 0 0, .int .i64 0, .slice none 0 0, .slice none 0 0, .slice none 0 0] 50)).heap.size = w.heap.size + 2) := Lib.hid (by simp)
 have HL := Lib.hid ((hLa.imp (E := fun b => b < w.heap.size) fun b hb _ => hb).new kB)
 have HN := Lib.hid kB
 have HG := Lib.hid hG
 have HX := Lib.hid hX
 have HLL := Lib.hid hLa.len
 clear hLa kB hG hX
 go_enter Tryz.func18, Tryz.ntmps18
 go_upto_region 1 with fail
 generalize (w.alloc (.cells #[.int .i64 p.head.index, .int .u64 p.head.first, .int .i64 p.head.count, .int .i64 p.head.bytes, .slice P1 p.head.prev.length p1, .slice R1 p.head.root.length r1, .int .i64 p.place, .slice L p.leaf.length lc, .slice Pa p.path.length pc, .slice La q lac] 36)).alloc (.cells #[.int .i64 0, .int .u64 0, .int .i64 0, .int .i64 0, .slice none 0 0, .slice none 0 0, .int .i64 0, .slice none 0 0, .slice none 0 0, .slice none 0 0] 50) = w1 at *
 generalize hgb : w.heap.size = gb at *
 refine hold_beginS (New w1.drew) (by kernel_rfl) ?_
 have HN := Lib.hid HN.out.drew
 have HL := Lib.hid (HL.out.new (New.refl w1).drew)
 have HG := Lib.hid (show w1.drew.heap[gb + 1]? = _ from HG.out)
 have HX := Lib.hid (show w1.drew.heap[gb]? = _ from HX.out)
 have HSZ : Hid (w1.drew.heap.size = gb + 2) := Lib.hid HSZ.out
 generalize w1.drew = wd at *
 have n0 : New wd wd := New.refl wd
 have y0 : ∀ W, New wd W → W.cell? ⟨gb, 0, none⟩ = _ := fun W hW => cellOf (hW.blockAt HX.out trivial) (k := 0) rfl
 have y1 : ∀ W, New wd W → W.cell? ⟨gb, 1, none⟩ = _ := fun W hW => cellOf (hW.blockAt HX.out trivial) (k := 1) rfl
 have y2 : ∀ W, New wd W → W.cell? ⟨gb, 2, none⟩ = _ := fun W hW => cellOf (hW.blockAt HX.out trivial) (k := 2) rfl
 have y3 : ∀ W, New wd W → W.cell? ⟨gb, 3, none⟩ = _ := fun W hW => cellOf (hW.blockAt HX.out trivial) (k := 3) rfl
 have y4 : ∀ W, New wd W → W.cell? ⟨gb, 4, none⟩ = _ := fun W hW => cellOf (hW.blockAt HX.out trivial) (k := 4) rfl
 have y5 : ∀ W, New wd W → W.cell? ⟨gb, 5, none⟩ = _ := fun W hW => cellOf (hW.blockAt HX.out trivial) (k := 5) rfl
 have y6 : ∀ W, New wd W → W.cell? ⟨gb, 6, none⟩ = _ := fun W hW => cellOf (hW.blockAt HX.out trivial) (k := 6) rfl
 have y7 : ∀ W, New wd W → W.cell? ⟨gb, 7, none⟩ = _ := fun W hW => cellOf (hW.blockAt HX.out trivial) (k := 7) rfl
 have y8 : ∀ W, New wd W → W.cell? ⟨gb, 8, none⟩ = _ := fun W hW => cellOf (hW.blockAt HX.out trivial) (k := 8) rfl
 have y9 : ∀ W, New wd W → W.cell? ⟨gb, 9, none⟩ = _ := fun W hW => cellOf (hW.blockAt HX.out trivial) (k := 9) rfl
 have HH := Lib.hid (fun W => headIn_any P1 R1 p1 r1 p.head W)
 refine take0 0 n0 ?_
 refine take0 1 n0 ?_
 refine take0 3 n0 ?_
 refine take0 4 n0 ?_
 refine take0 5 n0 ?_
 refine take0 6 n0 ?_
 refine take0 7 n0 ?_
 refine take0 8 n0 ?_
 refine hold_place1 (fuel2 := 1) (listed2 := #[true, true, true, true, true, true, true, true, true, true, true, false]) (?_ : Nat → Act) (fun g W => New wd W ∧ W.heap[g]? = some (.cells #[.int .i64 0, .int .u64 0, .int .i64 0, .int .i64 0, .slice none 0 0, .slice none 0 0, .int .i64 0, .slice none 0 0, .slice none 0 0, .slice none 0 0] 50 (0, 0)) ∧ gb + 2 ≤ g) (fun HJ => ?_) ?_
 rotate_left
 ·refine hold_fork0 (i := 2) (j := 10) (by kernel_rfl) rfl rfl rfl rfl (fun K hK => ?_) (fun K hK => ?_)
  ·skip
   go_simp
   refine (HH.out wd).mono ?_
   rintro e w2 ⟨rfl, k2⟩
   go_wp2_with fail
   have n2 : New wd w2 := n0.new k2
   refine hK.out _ _ n2 ?_
   clear hK K
   try simp only [Act.put, ly1, ly2, ly3, ly4, ly5, ly6]
   refine take0 9 n2 ?_
   refine hold_step0 (i := 10) (by kernel_rfl) rfl rfl (fun K hK => ?_)
   go_simp
   go_wp2_with fail
   have kA := (New.refl w2).alloc (.cells #[.int .i64 0, .int .u64 0, .int .i64 0, .int .i64 0, .slice none 0 0, .slice none 0 0, .int .i64 0, .slice none 0 0, .slice none 0 0, .slice none 0 0] 50)
   have hA := heap_alloc_new w2 (.cells #[.int .i64 0, .int .u64 0, .int .i64 0, .int .i64 0, .slice none 0 0, .slice none 0 0, .int .i64 0, .slice none 0 0, .slice none 0 0, .slice none 0 0] 50)
   have hgA : gb + 2 ≤ w2.heap.size := by have h1 := HSZ.out; have h2 := (n2).size; omega
   generalize w2.alloc (.cells #[.int .i64 0, .int .u64 0, .int .i64 0, .int .i64 0, .slice none 0 0, .slice none 0 0, .int .i64 0, .slice none 0 0, .slice none 0 0, .slice none 0 0] 50) = wA at *
   generalize w2.heap.size = gA at *
   have nA : New wd wA := (n2).new kA
   refine hK.out _ _ nA ?_
   clear hK K
   try simp only [Act.put, ly1, ly2, ly3, ly4, ly5, ly6]
   refine hold_at (HJ.out gA _ ⟨nA, hA, hgA⟩) ?_ rfl
   rfl
  ·skip
   have hgA : gb + 2 ≤ wd.heap.size := by have h1 := HSZ.out; omega
   go_simp
   go_wp2_with fail
   have kA := (New.refl wd).alloc (.cells #[.int .i64 0, .int .u64 0, .int .i64 0, .int .i64 0, .slice none 0 0, .slice none 0 0, .int .i64 0, .slice none 0 0, .slice none 0 0, .slice none 0 0] 50)
   have hA := heap_alloc_new wd (.cells #[.int .i64 0, .int .u64 0, .int .i64 0, .int .i64 0, .slice none 0 0, .slice none 0 0, .int .i64 0, .slice none 0 0, .slice none 0 0, .slice none 0 0] 50)
   generalize wd.alloc (.cells #[.int .i64 0, .int .u64 0, .int .i64 0, .int .i64 0, .slice none 0 0, .slice none 0 0, .int .i64 0, .slice none 0 0, .slice none 0 0, .slice none 0 0] 50) = wA at *
   generalize hgAe : wd.heap.size = gA at *
   refine hK.out _ _ kA ?_
   clear hK K
   try simp only [Act.put, ly1, ly2, ly3, ly4, ly5, ly6]
   refine hold_step0 (i := 2) (by kernel_rfl) rfl rfl (fun K hK => ?_)
   go_simp
   refine (HH.out wA).mono ?_
   rintro e w2 ⟨rfl, k2⟩
   go_wp2_with fail
   have n2 : New wd w2 := kA.new k2
   refine hK.out _ _ n2 ?_
   clear hK K
   try simp only [Act.put, ly1, ly2, ly3, ly4, ly5, ly6]
   have hA2 := k2.blockAt hA trivial
   refine take0 9 n2 ?_
   refine hold_at (HJ.out gA _ ⟨n2, hA2, hgA⟩) ?_ rfl
   rfl
 ·rintro g w2 ⟨n2, hg, hgl⟩
  obtain ⟨d0, d1, d2, d3, d4, d5, d6, d7, d8, d9⟩ := cs10 hg
  obtain ⟨z0, z1, z2, z3, z4, z5, z6, z7, z8, z9⟩ := fz10 hg
  refine hold_step0 (i := 11) (by kernel_rfl) rfl rfl (fun K hK => ?_)
  go_simp
  have nE : New wd _ := new_ten (g := g) n2 (by have h1 := HSZ.out; omega) (.int .i64 p.head.index) (.int .u64 p.head.first) (.int .i64 p.head.count) (.int .i64 p.head.bytes) (.slice P1 p.head.prev.length p1) (.slice R1 p.head.root.length r1) (.int .i64 p.place) (.slice L p.leaf.length lc) (.slice Pa p.path.length pc) (.slice none 0 0)
  have hE := set_ten hg (.int .i64 p.head.index) (.int .u64 p.head.first) (.int .i64 p.head.count) (.int .i64 p.head.bytes) (.slice P1 p.head.prev.length p1) (.slice R1 p.head.root.length r1) (.int .i64 p.place) (.slice L p.leaf.length lc) (.slice Pa p.path.length pc) (.slice none 0 0)
  refine hK.out _ _ nE ?_
  clear hK K d0 d1 d2 d3 d4 d5 d6 d7 d8 d9 z0 z1 z2 z3 z4 z5 z6 z7 z8 z9 y0 y1 y2 y3 y4 y5 y6 y7 y8 y9 n0
  try simp only 
  refine wpAnyH_done (by kernel_rfl) ?_ _
  generalize World.setCell _ _ _ = w3 at *
  have HE := Lib.hid hE
  have HN3 := Lib.hid nE
  have HGL := Lib.hid hgl
  have HGE : Hid (g < w3.heap.size) := Lib.hid (Array.getElem?_eq_some_iff.1 hE).1
  clear hE nE n2 hg hgl
  go_wp2_with fail
  go_loopw [4] (fun i wx => ∃ (k : Nat) (A : Option Addr) (c : Nat), k ≤ q ∧ i = .int .i64 (k : Int) ∧ wx.heap[g]? = some (.cells #[.int .i64 p.head.index, .int .u64 p.head.first, .int .i64 p.head.count, .int .i64 p.head.bytes, .slice P1 p.head.prev.length p1, .slice R1 p.head.root.length r1, .int .i64 p.place, .slice L p.leaf.length lc, .slice Pa p.path.length pc, .slice A k c] 50 (0, 0)) ∧ OwnHeadsR wx w3.heap.size (fun b => b < gb) A k c (p.later.take k) ∧ Keep (fun b => b ≠ g) w3 wx) (fun i _ => q - (intOf i).toNat)
  case atStart => exact ⟨0, none, 0, Nat.zero_le _, rfl, HE.out, OwnHeadsR.nil _ _ _, Keep.refl _ _⟩
  case round =>
   obtain ⟨k, A, c, hk, rfl, hgr, hO, hK⟩ := hrel
   have hx : wr.heap[gb]? = _ := hK.blockAt (HN3.out.blockAt HX.out trivial) (by have := HGL.out; show gb ≠ g; omega)
   have HLr := Lib.hid ((HL.out.new HN3.out).keep hK (fun b _ hb => by have h1 := HGL.out; have h2 : b < gb := hb; show b ≠ g; omega))
   by_cases hlt : k < q
   ·have hlk : k < p.later.length := by have := HLL.out; omega
    obtain ⟨b, off, A1, c1, A2, c2, rfl, hbD, u0, u1, u2, u3, u4, u5, l1, l2, b1, b2, f0, f1⟩ := HLr.out.at_ hlk
    have HTK : Hid (p.later.take (k + 1) = p.later.take k ++ [p.later[k]]) := Lib.hid (by rw [List.take_add_one, List.getElem?_eq_getElem hlk]; rfl)
    generalize p.later[k] = x at *
    have y9 := cellOf hx (k := 9) rfl
    go_upto_region 5 with fail
    have hbg : b ≠ g := by have h1 := HGL.out; have h2 : b < gb := hbD; omega
    have hgg : gb ≠ g := by have h1 := HGL.out; omega
    have hw3 : w3.heap.size ≤ wr.heap.size := hK.size
    have hb3 : b < w3.heap.size ∧ gb < w3.heap.size := by have h1 := HGL.out; have h2 := HGE.out; have h3 : b < gb := hbD; omega
    refine holdW_begin [9, 11] (Keep (fun b => b < w3.heap.size ∧ b ≠ g) wr.drew) (New wr.drew) (by kernel_rfl) ?_
    have s0 : Keep (fun b => b < w3.heap.size ∧ b ≠ g) wr.drew wr.drew := Keep.refl _ _
    have t0 : New wr.drew wr.drew := New.refl _
    have q9 : ∀ W, Keep (fun b => b < w3.heap.size ∧ b ≠ g) wr.drew W → W.cell? ⟨gb, 9, none⟩ = _ := fun W h => h.cell_some (a := wr.drew) y9 ⟨hb3.2, hgg⟩
    have q0 : ∀ W, Keep (fun b => b < w3.heap.size ∧ b ≠ g) wr.drew W → W.cell? _ = some (.int .i64 x.index) := fun W h => h.cell_some (a := wr.drew) u0 ⟨hb3.1, hbg⟩
    have q1 : ∀ W, Keep (fun b => b < w3.heap.size ∧ b ≠ g) wr.drew W → W.cell? _ = some (.int .u64 x.first) := fun W h => h.cell_some (a := wr.drew) u1 ⟨hb3.1, hbg⟩
    have q2 : ∀ W, Keep (fun b => b < w3.heap.size ∧ b ≠ g) wr.drew W → W.cell? _ = some (.int .i64 x.count) := fun W h => h.cell_some (a := wr.drew) u2 ⟨hb3.1, hbg⟩
    have q3 : ∀ W, Keep (fun b => b < w3.heap.size ∧ b ≠ g) wr.drew W → W.cell? _ = some (.int .i64 x.bytes) := fun W h => h.cell_some (a := wr.drew) u3 ⟨hb3.1, hbg⟩
    have q4 : ∀ W, Keep (fun b => b < w3.heap.size ∧ b ≠ g) wr.drew W → W.cell? _ = some (.slice A1 x.prev.length c1) := fun W h => h.cell_some (a := wr.drew) u4 ⟨hb3.1, hbg⟩
    have q5 : ∀ W, Keep (fun b => b < w3.heap.size ∧ b ≠ g) wr.drew W → W.cell? _ = some (.slice A2 x.root.length c2) := fun W h => h.cell_some (a := wr.drew) u5 ⟨hb3.1, hbg⟩
    have r9 : ∀ W, New wr.drew W → W.cell? ⟨g, 9, none⟩ = some (.slice A k c) := fun W h => cellOf (h.blockAt (show wr.drew.heap[g]? = _ from hgr) trivial) (k := 9) rfl
    refine holdW_read (i := 0) (v := ?_) ⟨s0, fun _ => t0⟩ rfl (by kernel_rfl) (by kernel_rfl) (by kernel_rfl) rfl (fun _ _ _ h => h) rfl ?_ ?_
    rotate_left
    ·intro w' hN
     go_simp
     try with_reducible rfl
    simp only [Act.put, List.getElem_toArray, List.setIfInBounds_toArray]
    refine holdW_readT (i := 1) (v := ?_) ⟨s0, fun _ => t0⟩ rfl (by kernel_rfl) (by kernel_rfl) (by kernel_rfl) (by kernel_rfl) (by kernel_rfl) (fun _ _ _ h => h) rfl ?_ ?_
    rotate_left
    ·intro w' hN
     go_simp
     try with_reducible rfl
    simp only [Act.put, ly1, ly2, ly3, ly4, ly5, ly6]
    refine holdW_read (i := 2) (v := ?_) ⟨s0, fun _ => t0⟩ rfl (by kernel_rfl) (by kernel_rfl) (by kernel_rfl) rfl (fun _ _ _ h => h) rfl ?_ ?_
    rotate_left
    ·intro w' hN
     go_simp
     try with_reducible rfl
    simp only [Act.put, ly1, ly2, ly3, ly4, ly5, ly6]
    refine holdW_read (i := 3) (v := ?_) ⟨s0, fun _ => t0⟩ rfl (by kernel_rfl) (by kernel_rfl) (by kernel_rfl) rfl (fun _ _ _ h => h) rfl ?_ ?_
    rotate_left
    ·intro w' hN
     go_simp
     try with_reducible rfl
    simp only [Act.put, ly1, ly2, ly3, ly4, ly5, ly6]
    refine holdW_read (i := 4) (v := ?_) ⟨s0, fun _ => t0⟩ rfl (by kernel_rfl) (by kernel_rfl) (by kernel_rfl) rfl (fun _ _ _ h => h) rfl ?_ ?_
    rotate_left
    ·intro w' hN
     go_simp
     try with_reducible rfl
    simp only [Act.put, ly1, ly2, ly3, ly4, ly5, ly6]
    refine holdW_read (i := 5) (v := ?_) ⟨s0, fun _ => t0⟩ rfl (by kernel_rfl) (by kernel_rfl) (by kernel_rfl) rfl (fun _ _ _ h => h) rfl ?_ ?_
    rotate_left
    ·intro w' hN
     go_simp
     try with_reducible rfl
    simp only [Act.put, ly1, ly2, ly3, ly4, ly5, ly6]
    refine holdW_read (i := 6) (v := ?_) ⟨s0, fun _ => t0⟩ rfl (by kernel_rfl) (by kernel_rfl) (by kernel_rfl) rfl (fun _ _ _ h => h) rfl ?_ ?_
    rotate_left
    ·intro w' hN
     go_simp
     try with_reducible rfl
    simp only [Act.put, ly1, ly2, ly3, ly4, ly5, ly6]
    refine holdW_step (i := 7) (by kernel_rfl) rfl rfl (fun K hK2 => ?_)
    go_simp
    refine (headIn_any A1 A2 c1 c2 x wr.drew).mono ?_
    rintro e w5 ⟨rfl, k5⟩
    go_wp2_with fail
    refine hK2.out _ _ ⟨s0.new k5, fun _ => k5⟩ ?_
    clear hK2 K
    try simp only [Act.put, ly1, ly2, ly3, ly4, ly5, ly6]
    refine holdW_step (i := 8) (by kernel_rfl) rfl rfl (fun K hK2 => ?_)
    go_simp
    go_wp2_with fail
    have k6 := k5.alloc (.cells #[.int .i64 x.index, .int .u64 x.first, .int .i64 x.count, .int .i64 x.bytes, .slice A1 x.prev.length c1, .slice A2 x.root.length c2] 40)
    have hrow := Row.made w5 40 #[.int .i64 x.index, .int .u64 x.first, .int .i64 x.count, .int .i64 x.bytes, .slice A1 x.prev.length c1, .slice A2 x.root.length c2] 1 6 rfl
    generalize w5.alloc (.cells #[.int .i64 x.index, .int .u64 x.first, .int .i64 x.count, .int .i64 x.bytes, .slice A1 x.prev.length c1, .slice A2 x.root.length c2] 40) = w6 at *
    generalize w5.heap.size = g5 at *
    refine hK2.out _ _ ⟨s0.new k6, fun _ => k6⟩ ?_
    clear hK2 K
    try simp only [Act.put, ly1, ly2, ly3, ly4, ly5, ly6]
    have k6r : New wr w6 := (New.refl wr).drew.new k6
    have HO6 := Lib.hid (hO.new k6r)
    have hne : ∀ b, b < gb → some b ≠ blk A := fun b hb e => by have h1 := (hO.lt b e.symm).1; have h2 := HGE.out; have h3 := HGL.out; omega
    have hz1 := (b1.new k6r).imp (E := fun b => b < gb ∧ some b ≠ blk A) fun b _ hb => ⟨hb, hne b hb⟩
    have hz2 := (b2.new k6r).imp (E := fun b => b < gb ∧ some b ≠ blk A) fun b _ hb => ⟨hb, hne b hb⟩
    have hbd : k + 1 ≤ 1099511627776 := by omega
    have hbs : w3.heap.size ≤ w6.heap.size := Nat.le_trans hw3 k6r.size
    refine holdW_step (i := 9) (by kernel_rfl) rfl rfl (fun K hK2 => ?_)
    obtain ⟨i0, hi0, hz0, hs0, hb0⟩ := info_parts info_headR
    refine wp_sl (E := headElt) _ _ _ 24 40 rfl i0 (.agg #[.int .i64 0, .int .u64 0, .int .i64 0, .int .i64 0, .slice none 0 0, .slice none 0 0]) 80 Tryz.underlying24 hi0 hz0 hs0 hb0 rfl w3.heap.size (fun b => b < gb) A k c (p.later.take k) rfl (ownHeadsR_sl.1 HO6.out) _ _ 1 _ x rfl hrow ⟨A1, c1, A2, c2, rfl, rfl, rfl, rfl, rfl, rfl, l1, l2, hz1, hz2, f0, f1⟩ (by omega) (by omega) hbs ?_
    intro A7 c7 w7 o7 hg7 hbk7
    have hlo := HO6.out.lt
    have s7 : Keep (fun b => b < w3.heap.size ∧ b ≠ g) wr.drew w7 := (s0.new k6).trans2 (Keep.grown (D := fun b => some b ≠ blk A) (Keep.refl _ _) hg7 (fun j hj hd => absurd hj.symm hd)) (fun b _ hb e => by have h1 := (hlo b e.symm).1; have h2 := hb.1; omega)
    refine hK2.out _ _ ⟨s7, fun h => absurd h (by decide)⟩ ?_
    clear hK2 K
    try simp only [Act.put, ly1, ly2, ly3, ly4, ly5, ly6]
    have hgA : blk A ≠ some g := fun e => by have h1 := (hO.lt g e).1; have h2 := HGE.out; omega
    have hg8 : w7.heap[g]? = _ := (Keep.grown (D := fun b => some b ≠ blk A) (Keep.refl _ _) hg7 (fun j hj hd => absurd hj.symm hd)).blockAt (k6r.blockAt hgr trivial) (fun e => hgA e.symm)
    refine holdW_step (i := 10) (by kernel_rfl) rfl rfl (fun K hK2 => ?_)
    go_simp
    refine hK2.out _ _ ⟨s7, fun h => absurd h (by decide)⟩ ?_
    clear hK2 K
    try simp only [Act.put, ly1, ly2, ly3, ly4, ly5, ly6]
    have d9 := cellOf hg8 (k := 9) rfl
    have z9 := frozenOf hg8 9
    refine holdW_step (i := 11) (by kernel_rfl) rfl rfl (fun K hK2 => ?_)
    go_simp
    have hgE := setCell_block hg8 9 (.slice A7 (k + 1) c7)
    have kS : Keep (fun b => b ≠ g) w7 (w7.setCell ⟨g, 9, none⟩ (.slice A7 (k + 1) c7)) := (Keep.refl _ w7).setCell (p := ⟨g, 9, none⟩) (fun hd => absurd rfl hd) _
    have s8 := s7.trans2 kS (fun b _ hb => hb.2)
    have o8 := (ownHeadsR_sl.2 o7).keepE kS (fun j hj e => by rw [e] at hj; have h1 := (o7.lt g hj).1; have h2 := HGE.out; omega) (fun b hb => by have h1 := HGL.out; have h2 : b < gb := hb; show b ≠ g; omega)
    have hlo7 := o7.lt
    refine hK2.out _ _ ⟨s8, fun h => absurd h (by decide)⟩ ?_
    clear hK2 K d9 z9
    try simp only [Act.put, ly1, ly2, ly3, ly4, ly5, ly6]
    have kW : Keep (fun b => b ≠ g) w3 (w7.setCell ⟨g, 9, none⟩ (.slice A7 (k + 1) c7)) := ((hK.trans2 (E := fun b => b < w3.heap.size ∧ b ≠ g) ((Keep.refl _ wr).drew.trans s8) (fun b hb hd => ⟨hb, hd⟩)))
    generalize w7.setCell _ _ = w8 at *
    refine wpAnyW_done (by kernel_rfl) ?_ _
    clear q0 q1 q2 q3 q4 q5 q9 r9 y9
    go_wp2_with fail
    go_roundw
    case rel => exact ⟨k + 1, A7, c7, by omega, by go_num, hgE, by rw [HTK.out]; exact o8, kW⟩
    case measure => simp [intOf]; omega
   ·obtain rfl : k = q := by omega
    have y9 := cellOf hx (k := 9) rfl
    obtain ⟨d0, d1, d2, d3, d4, d5, d6, d7, d8, d9⟩ := cs10 hgr
    have hg2 : wr.heap[gb + 1]? = _ := hK.blockAt (HN3.out.blockAt HG.out trivial) (by have := HGL.out; show gb + 1 ≠ g; omega)
    obtain ⟨e0, e1, e2, e3, e4, e5, e6, e7, e8, e9⟩ := cs10 hg2
    obtain ⟨z0, z1, z2, z3, z4, z5, z6, z7, z8, z9⟩ := fz10 hg2
    have HO := Lib.hid hO
    have HKK := Lib.hid hK
    have HG2 := Lib.hid hg2
    clear hO hK hg2 hgr hx
    go_wp2_with fail
    clear d0 e0 z0 d1 e1 z1 d2 e2 z2 d3 e3 z3 d4 e4 z4 d5 e5 z5 d6 e6 z6 d7 e7 z7 d8 e8 z8 d9 e9 z9
    have hE := set_ten HG2.out (.int .i64 p.head.index) (.int .u64 p.head.first) (.int .i64 p.head.count) (.int .i64 p.head.bytes) (.slice P1 p.head.prev.length p1) (.slice R1 p.head.root.length r1) (.int .i64 p.place) (.slice L p.leaf.length lc) (.slice Pa p.path.length pc) (.slice A k c)
    have kE := keep_ten wr (gb + 1) (.int .i64 p.head.index) (.int .u64 p.head.first) (.int .i64 p.head.count) (.int .i64 p.head.bytes) (.slice P1 p.head.prev.length p1) (.slice R1 p.head.root.length r1) (.int .i64 p.place) (.slice L p.leaf.length lc) (.slice Pa p.path.length pc) (.slice A k c)
    generalize hwE : World.setCell _ _ _ = wE at *
    obtain ⟨f0, f1, f2, f3, f4, f5, f6, f7, f8, f9⟩ := cs10 hE
    refine bodyPost_ret (v := .agg #[.int .i64 p.head.index, .int .u64 p.head.first, .int .i64 p.head.count, .int .i64 p.head.bytes, .slice P1 p.head.prev.length p1, .slice R1 p.head.root.length r1, .int .i64 p.place, .slice L p.leaf.length lc, .slice Pa p.path.length pc, .slice A k c]) (by simp [results, Tryz.results18, go_sem, f0, f1, f2, f3, f4, f5, f6, f7, f8, f9]) rfl ?_
    have hge : gb + 2 ≤ w3.heap.size := by have h1 := HGL.out; have h2 := HGE.out; omega
    have hNE : New w wE := (((HN.out.new HN3.out).imp (E := fun b => b < gb) (fun _ _ _ => trivial)).trans2 (Keep.trans2 (E := fun b => b ≠ gb + 1) (D := fun b => b ≠ g ∧ b ≠ gb + 1) (HKK.out.imp fun _ _ hd => hd.1) kE (fun b _ hb => hb.2)) (fun b _ hb => by have h1 := HGL.out; show b ≠ g ∧ b ≠ gb + 1; omega)).toNew (fun b hb => by rw [hgb] at hb; exact hb)
    refine ⟨⟨A, c, rfl, ?_⟩, hNE⟩
    have h1 := HO.out.keepE kE (fun j hj e => by rw [e] at hj; have h2 := (HO.out.lt _ hj).1; omega) (fun b hb => by show b ≠ gb + 1; have h2 : b < gb := hb; omega)
    rw [List.take_of_length_le (by have := HLL.out; omega)] at h1
    rw [hgb]
    exact ownHeadsR_sl.2 ((ownHeadsR_sl.1 h1).rebase (base := gb) (by omega))
set_option maxRecDepth 100000 in
set_option maxHeartbeats 4000000 in
theorem out24_any (D : Nat → Prop) (P1 R1 L Pa La : Option Addr) (p1 r1 lc pc q lac : Nat) (p : ProofP) (w : World) (hLa : Heads w D La q p.later) (hq : q ≤ 1000000) :
  Calls Tryz.prog 58 #[.agg #[.int .i64 p.head.index, .int .u64 p.head.first, .int .i64 p.head.count, .int .i64 p.head.bytes, .slice P1 p.head.prev.length p1, .slice R1 p.head.root.length r1, .int .i64 p.place, .slice L p.leaf.length lc, .slice Pa p.path.length pc, .slice La q lac]] w fun e w' => (∃ A c, e = .returned (.agg #[.int .i64 p.head.index, .int .u64 p.head.first, .int .i64 p.head.count, .int .i64 p.head.bytes, .slice P1 p.head.prev.length p1, .slice R1 p.head.root.length r1, .int .i64 p.place, .slice L p.leaf.length lc, .slice Pa p.path.length pc, .slice A q c]) ∧ OwnHeads w' w.heap.size (fun b => b < w.heap.size) A q c p.later) ∧ New w w' := by
 have kB : New w ((w.alloc (.cells #[.int .i64 p.head.index, .int .u64 p.head.first, .int .i64 p.head.count, .int .i64 p.head.bytes, .slice P1 p.head.prev.length p1, .slice R1 p.head.root.length r1, .int .i64 p.place, .slice L p.leaf.length lc, .slice Pa p.path.length pc, .slice La q lac] 50)).alloc (.cells #[.int .i64 0, .int .u64 0, .int .i64 0, .int .i64 0, .slice none 0 0, .slice none 0 0, .int .i64 0, .slice none 0 0, .slice none 0 0, .slice none 0 0] 36)) := ((New.refl w).alloc _).alloc _
 have hG := heap_alloc_new (w.alloc (.cells #[.int .i64 p.head.index, .int .u64 p.head.first, .int .i64 p.head.count, .int .i64 p.head.bytes, .slice P1 p.head.prev.length p1, .slice R1 p.head.root.length r1, .int .i64 p.place, .slice L p.leaf.length lc, .slice Pa p.path.length pc, .slice La q lac] 50)) (.cells #[.int .i64 0, .int .u64 0, .int .i64 0, .int .i64 0, .slice none 0 0, .slice none 0 0, .int .i64 0, .slice none 0 0, .slice none 0 0, .slice none 0 0] 36)
 rw [World.size_alloc] at hG
 have hX := ((New.refl (w.alloc (.cells #[.int .i64 p.head.index, .int .u64 p.head.first, .int .i64 p.head.count, .int .i64 p.head.bytes, .slice P1 p.head.prev.length p1, .slice R1 p.head.root.length r1, .int .i64 p.place, .slice L p.leaf.length lc, .slice Pa p.path.length pc, .slice La q lac] 50))).alloc (.cells #[.int .i64 0, .int .u64 0, .int .i64 0, .int .i64 0, .slice none 0 0, .slice none 0 0, .int .i64 0, .slice none 0 0, .slice none 0 0, .slice none 0 0] 36)).blockAt (heap_alloc_new w (.cells #[.int .i64 p.head.index, .int .u64 p.head.first, .int .i64 p.head.count, .int .i64 p.head.bytes, .slice P1 p.head.prev.length p1, .slice R1 p.head.root.length r1, .int .i64 p.place, .slice L p.leaf.length lc, .slice Pa p.path.length pc, .slice La q lac] 50)) trivial
 have HSZ : Hid (((w.alloc (.cells #[.int .i64 p.head.index, .int .u64 p.head.first, .int .i64 p.head.count, .int .i64 p.head.bytes, .slice P1 p.head.prev.length p1, .slice R1 p.head.root.length r1, .int .i64 p.place, .slice L p.leaf.length lc, .slice Pa p.path.length pc, .slice La q lac] 50)).alloc (.cells #[.int .i64 0, .int .u64 0, .int .i64 0, .int .i64 0, .slice none 0 0, .slice none 0 0, .int .i64 0, .slice none 0 0, .slice none 0 0, .slice none 0 0] 36)).heap.size = w.heap.size + 2) := Lib.hid (by simp)
 have HL := Lib.hid ((hLa.imp (E := fun b => b < w.heap.size) fun b hb _ => hb).new kB)
 have HN := Lib.hid kB
 have HG := Lib.hid hG
 have HX := Lib.hid hX
 have HLL := Lib.hid hLa.len
 clear hLa kB hG hX
 go_enter Tryz.func58, Tryz.ntmps58
 go_upto_region 1 with fail
 generalize (w.alloc (.cells #[.int .i64 p.head.index, .int .u64 p.head.first, .int .i64 p.head.count, .int .i64 p.head.bytes, .slice P1 p.head.prev.length p1, .slice R1 p.head.root.length r1, .int .i64 p.place, .slice L p.leaf.length lc, .slice Pa p.path.length pc, .slice La q lac] 50)).alloc (.cells #[.int .i64 0, .int .u64 0, .int .i64 0, .int .i64 0, .slice none 0 0, .slice none 0 0, .int .i64 0, .slice none 0 0, .slice none 0 0, .slice none 0 0] 36) = w1 at *
 generalize hgb : w.heap.size = gb at *
 refine hold_beginS (New w1.drew) (by kernel_rfl) ?_
 have HN := Lib.hid HN.out.drew
 have HL := Lib.hid (HL.out.new (New.refl w1).drew)
 have HG := Lib.hid (show w1.drew.heap[gb + 1]? = _ from HG.out)
 have HX := Lib.hid (show w1.drew.heap[gb]? = _ from HX.out)
 have HSZ : Hid (w1.drew.heap.size = gb + 2) := Lib.hid HSZ.out
 generalize w1.drew = wd at *
 have n0 : New wd wd := New.refl wd
 have y0 : ∀ W, New wd W → W.cell? ⟨gb, 0, none⟩ = _ := fun W hW => cellOf (hW.blockAt HX.out trivial) (k := 0) rfl
 have y1 : ∀ W, New wd W → W.cell? ⟨gb, 1, none⟩ = _ := fun W hW => cellOf (hW.blockAt HX.out trivial) (k := 1) rfl
 have y2 : ∀ W, New wd W → W.cell? ⟨gb, 2, none⟩ = _ := fun W hW => cellOf (hW.blockAt HX.out trivial) (k := 2) rfl
 have y3 : ∀ W, New wd W → W.cell? ⟨gb, 3, none⟩ = _ := fun W hW => cellOf (hW.blockAt HX.out trivial) (k := 3) rfl
 have y4 : ∀ W, New wd W → W.cell? ⟨gb, 4, none⟩ = _ := fun W hW => cellOf (hW.blockAt HX.out trivial) (k := 4) rfl
 have y5 : ∀ W, New wd W → W.cell? ⟨gb, 5, none⟩ = _ := fun W hW => cellOf (hW.blockAt HX.out trivial) (k := 5) rfl
 have y6 : ∀ W, New wd W → W.cell? ⟨gb, 6, none⟩ = _ := fun W hW => cellOf (hW.blockAt HX.out trivial) (k := 6) rfl
 have y7 : ∀ W, New wd W → W.cell? ⟨gb, 7, none⟩ = _ := fun W hW => cellOf (hW.blockAt HX.out trivial) (k := 7) rfl
 have y8 : ∀ W, New wd W → W.cell? ⟨gb, 8, none⟩ = _ := fun W hW => cellOf (hW.blockAt HX.out trivial) (k := 8) rfl
 have y9 : ∀ W, New wd W → W.cell? ⟨gb, 9, none⟩ = _ := fun W hW => cellOf (hW.blockAt HX.out trivial) (k := 9) rfl
 have HH := Lib.hid (fun W => headOut_any P1 R1 p1 r1 p.head W)
 refine take0 0 n0 ?_
 refine take0 1 n0 ?_
 refine take0 3 n0 ?_
 refine take0 4 n0 ?_
 refine take0 5 n0 ?_
 refine take0 6 n0 ?_
 refine take0 7 n0 ?_
 refine take0 8 n0 ?_
 refine hold_place1 (fuel2 := 1) (listed2 := #[true, true, true, true, true, true, true, true, true, true, true, false]) (?_ : Nat → Act) (fun g W => New wd W ∧ W.heap[g]? = some (.cells #[.int .i64 0, .int .u64 0, .int .i64 0, .int .i64 0, .slice none 0 0, .slice none 0 0, .int .i64 0, .slice none 0 0, .slice none 0 0, .slice none 0 0] 36 (0, 0)) ∧ gb + 2 ≤ g) (fun HJ => ?_) ?_
 rotate_left
 ·refine hold_fork0 (i := 2) (j := 10) (by kernel_rfl) rfl rfl rfl rfl (fun K hK => ?_) (fun K hK => ?_)
  ·skip
   go_simp
   refine (HH.out wd).mono ?_
   rintro e w2 ⟨rfl, k2⟩
   go_wp2_with fail
   have n2 : New wd w2 := n0.new k2
   refine hK.out _ _ n2 ?_
   clear hK K
   try simp only [Act.put, ly1, ly2, ly3, ly4, ly5, ly6]
   refine take0 9 n2 ?_
   refine hold_step0 (i := 10) (by kernel_rfl) rfl rfl (fun K hK => ?_)
   go_simp
   go_wp2_with fail
   have kA := (New.refl w2).alloc (.cells #[.int .i64 0, .int .u64 0, .int .i64 0, .int .i64 0, .slice none 0 0, .slice none 0 0, .int .i64 0, .slice none 0 0, .slice none 0 0, .slice none 0 0] 36)
   have hA := heap_alloc_new w2 (.cells #[.int .i64 0, .int .u64 0, .int .i64 0, .int .i64 0, .slice none 0 0, .slice none 0 0, .int .i64 0, .slice none 0 0, .slice none 0 0, .slice none 0 0] 36)
   have hgA : gb + 2 ≤ w2.heap.size := by have h1 := HSZ.out; have h2 := (n2).size; omega
   generalize w2.alloc (.cells #[.int .i64 0, .int .u64 0, .int .i64 0, .int .i64 0, .slice none 0 0, .slice none 0 0, .int .i64 0, .slice none 0 0, .slice none 0 0, .slice none 0 0] 36) = wA at *
   generalize w2.heap.size = gA at *
   have nA : New wd wA := (n2).new kA
   refine hK.out _ _ nA ?_
   clear hK K
   try simp only [Act.put, ly1, ly2, ly3, ly4, ly5, ly6]
   refine hold_at (HJ.out gA _ ⟨nA, hA, hgA⟩) ?_ rfl
   rfl
  ·skip
   have hgA : gb + 2 ≤ wd.heap.size := by have h1 := HSZ.out; omega
   go_simp
   go_wp2_with fail
   have kA := (New.refl wd).alloc (.cells #[.int .i64 0, .int .u64 0, .int .i64 0, .int .i64 0, .slice none 0 0, .slice none 0 0, .int .i64 0, .slice none 0 0, .slice none 0 0, .slice none 0 0] 36)
   have hA := heap_alloc_new wd (.cells #[.int .i64 0, .int .u64 0, .int .i64 0, .int .i64 0, .slice none 0 0, .slice none 0 0, .int .i64 0, .slice none 0 0, .slice none 0 0, .slice none 0 0] 36)
   generalize wd.alloc (.cells #[.int .i64 0, .int .u64 0, .int .i64 0, .int .i64 0, .slice none 0 0, .slice none 0 0, .int .i64 0, .slice none 0 0, .slice none 0 0, .slice none 0 0] 36) = wA at *
   generalize hgAe : wd.heap.size = gA at *
   refine hK.out _ _ kA ?_
   clear hK K
   try simp only [Act.put, ly1, ly2, ly3, ly4, ly5, ly6]
   refine hold_step0 (i := 2) (by kernel_rfl) rfl rfl (fun K hK => ?_)
   go_simp
   refine (HH.out wA).mono ?_
   rintro e w2 ⟨rfl, k2⟩
   go_wp2_with fail
   have n2 : New wd w2 := kA.new k2
   refine hK.out _ _ n2 ?_
   clear hK K
   try simp only [Act.put, ly1, ly2, ly3, ly4, ly5, ly6]
   have hA2 := k2.blockAt hA trivial
   refine take0 9 n2 ?_
   refine hold_at (HJ.out gA _ ⟨n2, hA2, hgA⟩) ?_ rfl
   rfl
 ·rintro g w2 ⟨n2, hg, hgl⟩
  obtain ⟨d0, d1, d2, d3, d4, d5, d6, d7, d8, d9⟩ := cs10 hg
  obtain ⟨z0, z1, z2, z3, z4, z5, z6, z7, z8, z9⟩ := fz10 hg
  refine hold_step0 (i := 11) (by kernel_rfl) rfl rfl (fun K hK => ?_)
  go_simp
  have nE : New wd _ := new_ten (g := g) n2 (by have h1 := HSZ.out; omega) (.int .i64 p.head.index) (.int .u64 p.head.first) (.int .i64 p.head.count) (.int .i64 p.head.bytes) (.slice P1 p.head.prev.length p1) (.slice R1 p.head.root.length r1) (.int .i64 p.place) (.slice L p.leaf.length lc) (.slice Pa p.path.length pc) (.slice none 0 0)
  have hE := set_ten hg (.int .i64 p.head.index) (.int .u64 p.head.first) (.int .i64 p.head.count) (.int .i64 p.head.bytes) (.slice P1 p.head.prev.length p1) (.slice R1 p.head.root.length r1) (.int .i64 p.place) (.slice L p.leaf.length lc) (.slice Pa p.path.length pc) (.slice none 0 0)
  refine hK.out _ _ nE ?_
  clear hK K d0 d1 d2 d3 d4 d5 d6 d7 d8 d9 z0 z1 z2 z3 z4 z5 z6 z7 z8 z9 y0 y1 y2 y3 y4 y5 y6 y7 y8 y9 n0
  try simp only [List.setIfInBounds_toArray, List.set_cons_zero, List.set_cons_succ]
  refine wpAnyH_done (by kernel_rfl) ?_ _
  generalize World.setCell _ _ _ = w3 at *
  have HE := Lib.hid hE
  have HN3 := Lib.hid nE
  have HGL := Lib.hid hgl
  have HGE : Hid (g < w3.heap.size) := Lib.hid (Array.getElem?_eq_some_iff.1 hE).1
  clear hE nE n2 hg hgl
  go_wp2_with fail
  go_loopw [4] (fun i wx => ∃ (k : Nat) (A : Option Addr) (c : Nat), k ≤ q ∧ i = .int .i64 (k : Int) ∧ wx.heap[g]? = some (.cells #[.int .i64 p.head.index, .int .u64 p.head.first, .int .i64 p.head.count, .int .i64 p.head.bytes, .slice P1 p.head.prev.length p1, .slice R1 p.head.root.length r1, .int .i64 p.place, .slice L p.leaf.length lc, .slice Pa p.path.length pc, .slice A k c] 36 (0, 0)) ∧ OwnHeads wx w3.heap.size (fun b => b < gb) A k c (p.later.take k) ∧ Keep (fun b => b ≠ g) w3 wx) (fun i _ => q - (intOf i).toNat)
  case atStart => exact ⟨0, none, 0, Nat.zero_le _, rfl, HE.out, OwnHeads.nil _ _ _, Keep.refl _ _⟩
  case round =>
   obtain ⟨k, A, c, hk, rfl, hgr, hO, hK⟩ := hrel
   have hx : wr.heap[gb]? = _ := hK.blockAt (HN3.out.blockAt HX.out trivial) (by have := HGL.out; show gb ≠ g; omega)
   have HLr := Lib.hid ((HL.out.new HN3.out).keep hK (fun b _ hb => by have h1 := HGL.out; have h2 : b < gb := hb; show b ≠ g; omega))
   by_cases hlt : k < q
   ·have hlk : k < p.later.length := by have := HLL.out; omega
    obtain ⟨b, off, A1, c1, A2, c2, rfl, hbD, u0, u1, u2, u3, u4, u5, l1, l2, b1, b2, f0, f1⟩ := HLr.out.at_ hlk
    have HTK : Hid (p.later.take (k + 1) = p.later.take k ++ [p.later[k]]) := Lib.hid (by rw [List.take_add_one, List.getElem?_eq_getElem hlk]; rfl)
    generalize p.later[k] = x at *
    have y9 := cellOf hx (k := 9) rfl
    go_upto_region 5 with fail
    have hbg : b ≠ g := by have h1 := HGL.out; have h2 : b < gb := hbD; omega
    have hgg : gb ≠ g := by have h1 := HGL.out; omega
    have hw3 : w3.heap.size ≤ wr.heap.size := hK.size
    have hb3 : b < w3.heap.size ∧ gb < w3.heap.size := by have h1 := HGL.out; have h2 := HGE.out; have h3 : b < gb := hbD; omega
    refine holdW_begin [9, 11] (Keep (fun b => b < w3.heap.size ∧ b ≠ g) wr.drew) (New wr.drew) (by kernel_rfl) ?_
    have s0 : Keep (fun b => b < w3.heap.size ∧ b ≠ g) wr.drew wr.drew := Keep.refl _ _
    have t0 : New wr.drew wr.drew := New.refl _
    have q9 : ∀ W, Keep (fun b => b < w3.heap.size ∧ b ≠ g) wr.drew W → W.cell? ⟨gb, 9, none⟩ = _ := fun W h => h.cell_some (a := wr.drew) y9 ⟨hb3.2, hgg⟩
    have q0 : ∀ W, Keep (fun b => b < w3.heap.size ∧ b ≠ g) wr.drew W → W.cell? _ = some (.int .i64 x.index) := fun W h => h.cell_some (a := wr.drew) u0 ⟨hb3.1, hbg⟩
    have q1 : ∀ W, Keep (fun b => b < w3.heap.size ∧ b ≠ g) wr.drew W → W.cell? _ = some (.int .u64 x.first) := fun W h => h.cell_some (a := wr.drew) u1 ⟨hb3.1, hbg⟩
    have q2 : ∀ W, Keep (fun b => b < w3.heap.size ∧ b ≠ g) wr.drew W → W.cell? _ = some (.int .i64 x.count) := fun W h => h.cell_some (a := wr.drew) u2 ⟨hb3.1, hbg⟩
    have q3 : ∀ W, Keep (fun b => b < w3.heap.size ∧ b ≠ g) wr.drew W → W.cell? _ = some (.int .i64 x.bytes) := fun W h => h.cell_some (a := wr.drew) u3 ⟨hb3.1, hbg⟩
    have q4 : ∀ W, Keep (fun b => b < w3.heap.size ∧ b ≠ g) wr.drew W → W.cell? _ = some (.slice A1 x.prev.length c1) := fun W h => h.cell_some (a := wr.drew) u4 ⟨hb3.1, hbg⟩
    have q5 : ∀ W, Keep (fun b => b < w3.heap.size ∧ b ≠ g) wr.drew W → W.cell? _ = some (.slice A2 x.root.length c2) := fun W h => h.cell_some (a := wr.drew) u5 ⟨hb3.1, hbg⟩
    have r9 : ∀ W, New wr.drew W → W.cell? ⟨g, 9, none⟩ = some (.slice A k c) := fun W h => cellOf (h.blockAt (show wr.drew.heap[g]? = _ from hgr) trivial) (k := 9) rfl
    refine holdW_read (i := 0) (v := ?_) ⟨s0, fun _ => t0⟩ rfl (by kernel_rfl) (by kernel_rfl) (by kernel_rfl) rfl (fun _ _ _ h => h) rfl ?_ ?_
    rotate_left
    ·intro w' hN
     go_simp
     try with_reducible rfl
    simp only [Act.put, ly1, ly3, ly4, ly5, ly6]
    refine holdW_readT (i := 1) (v := ?_) ⟨s0, fun _ => t0⟩ rfl (by kernel_rfl) (by kernel_rfl) (by kernel_rfl) (by kernel_rfl) (by kernel_rfl) (fun _ _ _ h => h) rfl ?_ ?_
    rotate_left
    ·intro w' hN
     go_simp
     try with_reducible rfl
    simp only [Act.put, ly1, ly2, ly3, ly4, ly5, ly6]
    refine holdW_read (i := 2) (v := ?_) ⟨s0, fun _ => t0⟩ rfl (by kernel_rfl) (by kernel_rfl) (by kernel_rfl) rfl (fun _ _ _ h => h) rfl ?_ ?_
    rotate_left
    ·intro w' hN
     go_simp
     try with_reducible rfl
    simp only [Act.put, ly1, ly2, ly3, ly4, ly5, ly6]
    refine holdW_read (i := 3) (v := ?_) ⟨s0, fun _ => t0⟩ rfl (by kernel_rfl) (by kernel_rfl) (by kernel_rfl) rfl (fun _ _ _ h => h) rfl ?_ ?_
    rotate_left
    ·intro w' hN
     go_simp
     try with_reducible rfl
    simp only [Act.put, ly1, ly2, ly3, ly4, ly5, ly6]
    refine holdW_read (i := 4) (v := ?_) ⟨s0, fun _ => t0⟩ rfl (by kernel_rfl) (by kernel_rfl) (by kernel_rfl) rfl (fun _ _ _ h => h) rfl ?_ ?_
    rotate_left
    ·intro w' hN
     go_simp
     try with_reducible rfl
    simp only [Act.put, ly1, ly2, ly3, ly4, ly5, ly6]
    refine holdW_read (i := 5) (v := ?_) ⟨s0, fun _ => t0⟩ rfl (by kernel_rfl) (by kernel_rfl) (by kernel_rfl) rfl (fun _ _ _ h => h) rfl ?_ ?_
    rotate_left
    ·intro w' hN
     go_simp
     try with_reducible rfl
    simp only [Act.put, ly1, ly2, ly3, ly4, ly5, ly6]
    refine holdW_read (i := 6) (v := ?_) ⟨s0, fun _ => t0⟩ rfl (by kernel_rfl) (by kernel_rfl) (by kernel_rfl) rfl (fun _ _ _ h => h) rfl ?_ ?_
    rotate_left
    ·intro w' hN
     go_simp
     try with_reducible rfl
    simp only [Act.put, ly1, ly2, ly3, ly4, ly5, ly6]
    refine holdW_step (i := 7) (by kernel_rfl) rfl rfl (fun K hK2 => ?_)
    go_simp
    refine (headOut_any A1 A2 c1 c2 x wr.drew).mono ?_
    rintro e w5 ⟨rfl, k5⟩
    go_wp2_with fail
    refine hK2.out _ _ ⟨s0.new k5, fun _ => k5⟩ ?_
    clear hK2 K
    try simp only [Act.put, ly1, ly2, ly3, ly4, ly5, ly6]
    refine holdW_step (i := 8) (by kernel_rfl) rfl rfl (fun K hK2 => ?_)
    go_simp
    go_wp2_with fail
    have k6 := k5.alloc (.cells #[.int .i64 x.index, .int .u64 x.first, .int .i64 x.count, .int .i64 x.bytes, .slice A1 x.prev.length c1, .slice A2 x.root.length c2] 33)
    have hrow := Row.made w5 33 #[.int .i64 x.index, .int .u64 x.first, .int .i64 x.count, .int .i64 x.bytes, .slice A1 x.prev.length c1, .slice A2 x.root.length c2] 1 6 rfl
    generalize w5.alloc (.cells #[.int .i64 x.index, .int .u64 x.first, .int .i64 x.count, .int .i64 x.bytes, .slice A1 x.prev.length c1, .slice A2 x.root.length c2] 33) = w6 at *
    generalize w5.heap.size = g5 at *
    refine hK2.out _ _ ⟨s0.new k6, fun _ => k6⟩ ?_
    clear hK2 K
    try simp only [Act.put, ly1, ly2, ly3, ly4, ly5, ly6]
    have k6r : New wr w6 := (New.refl wr).drew.new k6
    have HO6 := Lib.hid (hO.new k6r)
    have hne : ∀ b, b < gb → some b ≠ blk A := fun b hb e => by have h1 := (hO.lt b e.symm).1; have h2 := HGE.out; have h3 := HGL.out; omega
    have hz1 := (b1.new k6r).imp (E := fun b => b < gb ∧ some b ≠ blk A) fun b _ hb => ⟨hb, hne b hb⟩
    have hz2 := (b2.new k6r).imp (E := fun b => b < gb ∧ some b ≠ blk A) fun b _ hb => ⟨hb, hne b hb⟩
    have hbd : k + 1 ≤ 1099511627776 := by omega
    have hbs : w3.heap.size ≤ w6.heap.size := Nat.le_trans hw3 k6r.size
    refine holdW_step (i := 9) (by kernel_rfl) rfl rfl (fun K hK2 => ?_)
    obtain ⟨i0, hi0, hz0, hs0, hb0⟩ := info_parts info_head
    refine wp_sl (E := headElt) _ _ _ 34 33 rfl i0 (.agg #[.int .i64 0, .int .u64 0, .int .i64 0, .int .i64 0, .slice none 0 0, .slice none 0 0]) 80 Tryz.underlying34 hi0 hz0 hs0 hb0 rfl w3.heap.size (fun b => b < gb) A k c (p.later.take k) rfl (ownHeads_sl.1 HO6.out) _ _ 1 _ x rfl hrow ⟨A1, c1, A2, c2, rfl, rfl, rfl, rfl, rfl, rfl, l1, l2, hz1, hz2, f0, f1⟩ (by omega) (by omega) hbs ?_
    intro A7 c7 w7 o7 hg7 hbk7
    have hlo := HO6.out.lt
    have s7 : Keep (fun b => b < w3.heap.size ∧ b ≠ g) wr.drew w7 := (s0.new k6).trans2 (Keep.grown (D := fun b => some b ≠ blk A) (Keep.refl _ _) hg7 (fun j hj hd => absurd hj.symm hd)) (fun b _ hb e => by have h1 := (hlo b e.symm).1; have h2 := hb.1; omega)
    refine hK2.out _ _ ⟨s7, fun h => absurd h (by decide)⟩ ?_
    clear hK2 K
    try simp only [Act.put, ly1, ly2, ly3, ly4, ly5, ly6]
    have hgA : blk A ≠ some g := fun e => by have h1 := (hO.lt g e).1; have h2 := HGE.out; omega
    have hg8 : w7.heap[g]? = _ := (Keep.grown (D := fun b => some b ≠ blk A) (Keep.refl _ _) hg7 (fun j hj hd => absurd hj.symm hd)).blockAt (k6r.blockAt hgr trivial) (fun e => hgA e.symm)
    refine holdW_step (i := 10) (by kernel_rfl) rfl rfl (fun K hK2 => ?_)
    go_simp
    refine hK2.out _ _ ⟨s7, fun h => absurd h (by decide)⟩ ?_
    clear hK2 K
    try simp only [Act.put, ly1, ly2, ly3, ly4, ly5, ly6]
    have d9 := cellOf hg8 (k := 9) rfl
    have z9 := frozenOf hg8 9
    refine holdW_step (i := 11) (by kernel_rfl) rfl rfl (fun K hK2 => ?_)
    go_simp
    have hgE := setCell_block hg8 9 (.slice A7 (k + 1) c7)
    have kS : Keep (fun b => b ≠ g) w7 (w7.setCell ⟨g, 9, none⟩ (.slice A7 (k + 1) c7)) := (Keep.refl _ w7).setCell (p := ⟨g, 9, none⟩) (fun hd => absurd rfl hd) _
    have s8 := s7.trans2 kS (fun b _ hb => hb.2)
    have o8 := (ownHeads_sl.2 o7).keepE kS (fun j hj e => by rw [e] at hj; have h1 := (o7.lt g hj).1; have h2 := HGE.out; omega) (fun b hb => by have h1 := HGL.out; have h2 : b < gb := hb; show b ≠ g; omega)
    have hlo7 := o7.lt
    refine hK2.out _ _ ⟨s8, fun h => absurd h (by decide)⟩ ?_
    clear hK2 K d9 z9
    try simp only [Act.put, ly1, ly2, ly3, ly4, ly5, ly6]
    have kW : Keep (fun b => b ≠ g) w3 (w7.setCell ⟨g, 9, none⟩ (.slice A7 (k + 1) c7)) := ((hK.trans2 (E := fun b => b < w3.heap.size ∧ b ≠ g) ((Keep.refl _ wr).drew.trans s8) (fun b hb hd => ⟨hb, hd⟩)))
    generalize w7.setCell _ _ = w8 at *
    refine wpAnyW_done (by kernel_rfl) ?_ _
    clear q0 q1 q2 q3 q4 q5 q9 r9 y9
    go_wp2_with fail
    go_roundw
    case rel => exact ⟨k + 1, A7, c7, by omega, by go_num, hgE, by rw [HTK.out]; exact o8, kW⟩
    case measure => simp [intOf]; omega
   ·obtain rfl : k = q := by omega
    have y9 := cellOf hx (k := 9) rfl
    obtain ⟨d0, d1, d2, d3, d4, d5, d6, d7, d8, d9⟩ := cs10 hgr
    have hg2 : wr.heap[gb + 1]? = _ := hK.blockAt (HN3.out.blockAt HG.out trivial) (by have := HGL.out; show gb + 1 ≠ g; omega)
    obtain ⟨e0, e1, e2, e3, e4, e5, e6, e7, e8, e9⟩ := cs10 hg2
    obtain ⟨z0, z1, z2, z3, z4, z5, z6, z7, z8, z9⟩ := fz10 hg2
    have HO := Lib.hid hO
    have HKK := Lib.hid hK
    have HG2 := Lib.hid hg2
    clear hO hK hg2 hgr hx
    go_wp2_with fail
    clear d0 e0 z0 d1 e1 z1 d2 e2 z2 d3 e3 z3 d4 e4 z4 d5 e5 z5 d6 e6 z6 d7 e7 z7 d8 e8 z8 d9 e9 z9
    have hE := set_ten HG2.out (.int .i64 p.head.index) (.int .u64 p.head.first) (.int .i64 p.head.count) (.int .i64 p.head.bytes) (.slice P1 p.head.prev.length p1) (.slice R1 p.head.root.length r1) (.int .i64 p.place) (.slice L p.leaf.length lc) (.slice Pa p.path.length pc) (.slice A k c)
    have kE := keep_ten wr (gb + 1) (.int .i64 p.head.index) (.int .u64 p.head.first) (.int .i64 p.head.count) (.int .i64 p.head.bytes) (.slice P1 p.head.prev.length p1) (.slice R1 p.head.root.length r1) (.int .i64 p.place) (.slice L p.leaf.length lc) (.slice Pa p.path.length pc) (.slice A k c)
    generalize hwE : World.setCell _ _ _ = wE at *
    obtain ⟨f0, f1, f2, f3, f4, f5, f6, f7, f8, f9⟩ := cs10 hE
    refine bodyPost_ret (v := .agg #[.int .i64 p.head.index, .int .u64 p.head.first, .int .i64 p.head.count, .int .i64 p.head.bytes, .slice P1 p.head.prev.length p1, .slice R1 p.head.root.length r1, .int .i64 p.place, .slice L p.leaf.length lc, .slice Pa p.path.length pc, .slice A k c]) (by simp [results, Tryz.results58, go_sem, f0, f1, f2, f3, f4, f5, f6, f7, f8, f9]) rfl ?_
    have hge : gb + 2 ≤ w3.heap.size := by have h1 := HGL.out; have h2 := HGE.out; omega
    have hNE : New w wE := (((HN.out.new HN3.out).imp (E := fun b => b < gb) (fun _ _ _ => trivial)).trans2 (Keep.trans2 (E := fun b => b ≠ gb + 1) (D := fun b => b ≠ g ∧ b ≠ gb + 1) (HKK.out.imp fun _ _ hd => hd.1) kE (fun b _ hb => hb.2)) (fun b _ hb => by have h1 := HGL.out; show b ≠ g ∧ b ≠ gb + 1; omega)).toNew (fun b hb => by rw [hgb] at hb; exact hb)
    refine ⟨⟨A, c, rfl, ?_⟩, hNE⟩
    have h1 := HO.out.keepE kE (fun j hj e => by rw [e] at hj; have h2 := (HO.out.lt _ hj).1; omega) (fun b hb => by show b ≠ gb + 1; have h2 : b < gb := hb; omega)
    rw [List.take_of_length_le (by have := HLL.out; omega)] at h1
    rw [hgb]
    exact ownHeads_sl.2 ((ownHeads_sl.1 h1).rebase (base := gb) (by omega))
end Go.Proofs.YtfegdgaanmcecaaGreatDoor
