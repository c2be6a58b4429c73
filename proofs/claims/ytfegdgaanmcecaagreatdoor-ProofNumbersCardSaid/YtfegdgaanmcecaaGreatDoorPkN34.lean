/-
  PROVED HERE: what permafrostlaw24.alike answers of a proof and the document's proof that are the same data; condition: lengths that a slice may have.
-/
import Derived.Test.YtfegdgaanmcecaaGreatDoorPkN33
namespace Go.Proofs.YtfegdgaanmcecaaGreatDoor
open Go.RowKit
set_option maxRecDepth 100000 in
set_option maxHeartbeats 4000000 in
theorem alike24_any (D1 E1 D2 E2 : Nat → Prop) (P1 R1 L1 Pa1 La1 P2 R2 L2 Pa2 La2 : Option Addr) (p1 r1 l1 pc1 lac1 p2 r2 l2 pc2 lac2 q : Nat) (p : ProofP) (w : World) (h1 : PrAt w D1 p P1 R1 L1 Pa1 p1 r1 l1 pc1) (hLa1 : Heads w E1 La1 q p.later)
  (h2 : PrAt w D2 p P2 R2 L2 Pa2 p2 r2 l2 pc2) (hLa2 : Heads w E2 La2 q p.later) (hq : q ≤ 1000000) :
  Calls Tryz.prog 17 #[.agg #[.int .i64 p.head.index, .int .u64 p.head.first, .int .i64 p.head.count, .int .i64 p.head.bytes, .slice P1 p.head.prev.length p1, .slice R1 p.head.root.length r1, .int .i64 p.place, .slice L1 p.leaf.length l1, .slice Pa1 p.path.length pc1, .slice La1 q lac1], .agg #[.int .i64 p.head.index, .int .u64 p.head.first, .int .i64 p.head.count, .int .i64 p.head.bytes, .slice P2 p.head.prev.length p2, .slice R2 p.head.root.length r2, .int .i64 p.place, .slice L2 p.leaf.length l2, .slice Pa2 p.path.length pc2, .slice La2 q lac2]] w fun e w' => e = .returned (.bool true) ∧ New w w' := by
 have hpn : p.path.length ≤ 9223372036854775807 := Nat.le_trans h1.hpa h1.hpm
 have kB : New w ((w.alloc (.cells #[.int .i64 p.head.index, .int .u64 p.head.first, .int .i64 p.head.count, .int .i64 p.head.bytes, .slice P1 p.head.prev.length p1, .slice R1 p.head.root.length r1, .int .i64 p.place, .slice L1 p.leaf.length l1, .slice Pa1 p.path.length pc1, .slice La1 q lac1] 36)).alloc (.cells #[.int .i64 p.head.index, .int .u64 p.head.first, .int .i64 p.head.count, .int .i64 p.head.bytes, .slice P2 p.head.prev.length p2, .slice R2 p.head.root.length r2, .int .i64 p.place, .slice L2 p.leaf.length l2, .slice Pa2 p.path.length pc2, .slice La2 q lac2] 50)) := ((New.refl w).alloc _).alloc _
 have hY := heap_alloc_new (w.alloc (.cells #[.int .i64 p.head.index, .int .u64 p.head.first, .int .i64 p.head.count, .int .i64 p.head.bytes, .slice P1 p.head.prev.length p1, .slice R1 p.head.root.length r1, .int .i64 p.place, .slice L1 p.leaf.length l1, .slice Pa1 p.path.length pc1, .slice La1 q lac1] 36)) (.cells #[.int .i64 p.head.index, .int .u64 p.head.first, .int .i64 p.head.count, .int .i64 p.head.bytes, .slice P2 p.head.prev.length p2, .slice R2 p.head.root.length r2, .int .i64 p.place, .slice L2 p.leaf.length l2, .slice Pa2 p.path.length pc2, .slice La2 q lac2] 50)
 rw [World.size_alloc] at hY
 have hX := ((New.refl (w.alloc (.cells #[.int .i64 p.head.index, .int .u64 p.head.first, .int .i64 p.head.count, .int .i64 p.head.bytes, .slice P1 p.head.prev.length p1, .slice R1 p.head.root.length r1, .int .i64 p.place, .slice L1 p.leaf.length l1, .slice Pa1 p.path.length pc1, .slice La1 q lac1] 36))).alloc (.cells #[.int .i64 p.head.index, .int .u64 p.head.first, .int .i64 p.head.count, .int .i64 p.head.bytes, .slice P2 p.head.prev.length p2, .slice R2 p.head.root.length r2, .int .i64 p.place, .slice L2 p.leaf.length l2, .slice Pa2 p.path.length pc2, .slice La2 q lac2] 50)).blockAt (heap_alloc_new w (.cells #[.int .i64 p.head.index, .int .u64 p.head.first, .int .i64 p.head.count, .int .i64 p.head.bytes, .slice P1 p.head.prev.length p1, .slice R1 p.head.root.length r1, .int .i64 p.place, .slice L1 p.leaf.length l1, .slice Pa1 p.path.length pc1, .slice La1 q lac1] 36)) trivial
 have HN := Lib.hid kB
 have HY := Lib.hid hY
 have HL1 := Lib.hid (hLa1.new kB)
 have HL2 := Lib.hid (hLa2.new kB)
 have H1 := Lib.hid (h1.new kB)
 have H2 := Lib.hid (h2.new kB)
 have HLL := Lib.hid hLa1.len
 clear h1 h2 hLa1 hLa2 kB hY
 obtain ⟨x0, x1, x2, x3, x4, x5, x6, x7, x8, x9⟩ := cs10 hX
 go_enter Tryz.func17, Tryz.ntmps17
 go_wp2_with fail
 clear hX x0 x1 x2 x3 x4 x5 x6 x7 x8 x9
 generalize (w.alloc (.cells #[.int .i64 p.head.index, .int .u64 p.head.first, .int .i64 p.head.count, .int .i64 p.head.bytes, .slice P1 p.head.prev.length p1, .slice R1 p.head.root.length r1, .int .i64 p.place, .slice L1 p.leaf.length l1, .slice Pa1 p.path.length pc1, .slice La1 q lac1] 36)).alloc (.cells #[.int .i64 p.head.index, .int .u64 p.head.first, .int .i64 p.head.count, .int .i64 p.head.bytes, .slice P2 p.head.prev.length p2, .slice R2 p.head.root.length r2, .int .i64 p.place, .slice L2 p.leaf.length l2, .slice Pa2 p.path.length pc2, .slice La2 q lac2] 50) = w1 at *
 generalize w.heap.size = gb at *
 refine (in24_any _ P1 R1 L1 Pa1 La1 p1 r1 l1 pc1 q lac1 p w1 HL1.out hq).mono ?_
 rintro e w2 ⟨⟨A, c, rfl, oA⟩, k2⟩
 have kX := k2.alloc (.cells #[.int .i64 p.head.index, .int .u64 p.head.first, .int .i64 p.head.count, .int .i64 p.head.bytes, .slice P1 p.head.prev.length p1, .slice R1 p.head.root.length r1, .int .i64 p.place, .slice L1 p.leaf.length l1, .slice Pa1 p.path.length pc1, .slice A q c] 50)
 have hX := heap_alloc_new w2 (.cells #[.int .i64 p.head.index, .int .u64 p.head.first, .int .i64 p.head.count, .int .i64 p.head.bytes, .slice P1 p.head.prev.length p1, .slice R1 p.head.root.length r1, .int .i64 p.place, .slice L1 p.leaf.length l1, .slice Pa1 p.path.length pc1, .slice A q c] 50)
 have HA := Lib.hid (oA.heads.new ((New.refl w2).alloc (.cells #[.int .i64 p.head.index, .int .u64 p.head.first, .int .i64 p.head.count, .int .i64 p.head.bytes, .slice P1 p.head.prev.length p1, .slice R1 p.head.root.length r1, .int .i64 p.place, .slice L1 p.leaf.length l1, .slice Pa1 p.path.length pc1, .slice A q c] 50)))
 clear oA k2
 go_upto_region 2 with fail
 generalize w2.alloc (.cells #[.int .i64 p.head.index, .int .u64 p.head.first, .int .i64 p.head.count, .int .i64 p.head.bytes, .slice P1 p.head.prev.length p1, .slice R1 p.head.root.length r1, .int .i64 p.place, .slice L1 p.leaf.length l1, .slice Pa1 p.path.length pc1, .slice A q c] 50) = w3 at *
 generalize w2.heap.size = gx at *
 have hY3 := kX.blockAt HY.out trivial
 have HX3 := Lib.hid hX
 have HY3 := Lib.hid hY3
 have HN3 := Lib.hid (HN.out.new kX)
 have H1 := Lib.hid (H1.out.new kX)
 have H2 := Lib.hid (H2.out.new kX)
 have HL2 := Lib.hid (HL2.out.new kX)
 have HHC := Lib.hid (head24_any _ _ _ _ P1 R1 P2 R2 p1 r1 p2 r2 p.head w3 H1.out.prev H1.out.root H2.out.prev H2.out.root)
 obtain ⟨x0, x1, x2, x3, x4, x5, x6, x7, x8, x9⟩ := cs10 HX3.out
 obtain ⟨y0, y1, y2, y3, y4, y5, y6, y7, y8, y9⟩ := cs10 HY3.out
 clear hX hY3 kX HY HL1 HN
 go_wp2_with fail
 clear x0 y0 x1 y1 x2 y2 x3 y3 x4 y4 x5 y5 x6 y6 x7 y7 x8 y8 x9 y9
 refine HHC.out.mono ?_
 rintro e w4 ⟨rfl, k4⟩
 have k1 := run_str (c := l1) (H1.out.leaf.new k4)
 have k2 := run_str (c := l2) (H2.out.leaf.new k4)
 have HLI := Lib.hid (lists_any _ _ Pa1 Pa2 p.path.length pc1 p.path.length pc2 p.path p.path w4 (H1.out.path.new k4).bss (H2.out.path.new k4).bss hpn)
 rw [decide_eq_true (rfl : p.path = p.path)] at HLI
 have hbx := k4.blockAt HX3.out trivial
 have hby := k4.blockAt HY3.out trivial
 obtain ⟨x0, x1, x2, x3, x4, x5, x6, x7, x8, x9⟩ := cs10 hbx
 obtain ⟨y0, y1, y2, y3, y4, y5, y6, y7, y8, y9⟩ := cs10 hby
 have HX4 := Lib.hid hbx
 have HY4 := Lib.hid hby
 have HN4 := Lib.hid (HN3.out.new k4)
 have HA4 := Lib.hid (HA.out.new k4)
 have HL4 := Lib.hid (HL2.out.new k4)
 clear hbx hby k4 HX3 HY3 HN3 HA HL2 HHC
 go_wp2_with fail
 clear k1 k2
 clear x0 y0 x1 y1 x2 y2 x3 y3 x4 y4 x5 y5 x6 y6 x7 y7 x8 y8 x9 y9
 refine HLI.out.mono ?_
 rintro e w5 ⟨rfl, k5⟩
 have hbx := k5.blockAt HX4.out trivial
 have hby := k5.blockAt HY4.out trivial
 obtain ⟨x0, x1, x2, x3, x4, x5, x6, x7, x8, x9⟩ := cs10 hbx
 obtain ⟨y0, y1, y2, y3, y4, y5, y6, y7, y8, y9⟩ := cs10 hby
 have HX5 := Lib.hid hbx
 have HY5 := Lib.hid hby
 have HN5 := Lib.hid (HN4.out.new k5)
 have HA5 := Lib.hid (HA4.out.new k5)
 have HL5 := Lib.hid (HL4.out.new k5)
 clear hbx hby k5 HX4 HY4 HN4 HA4 HL4 HLI
 go_wp2_with fail
 clear x0 y0 x1 y1 x2 y2 x3 y3 x4 y4 x5 y5 x6 y6 x7 y7 x8 y8 x9 y9
 go_loopw [6] (fun i wx => ∃ k : Nat, k ≤ q ∧ i = .int .i64 (k : Int) ∧ New w5 wx) (fun i _ => q - (intOf i).toNat)
 case atStart => exact ⟨0, Nat.zero_le _, rfl, New.refl _⟩
 case round =>
  obtain ⟨k, hk, rfl, hK⟩ := hrel
  have hbx := hK.blockAt HX5.out trivial
  have hby := hK.blockAt HY5.out trivial
  have x9 := cellOf hbx (k := 9) rfl
  have y9 := cellOf hby (k := 9) rfl
  by_cases hlt : k < q
  ·have hlk : k < p.later.length := by have := HLL.out; omega
   obtain ⟨b, off, A1, c1, A2, c2, rfl, _, u0, u1, u2, u3, u4, u5, _, _, b1, b2, _⟩ := (HA5.out.new hK).at_ hlk
   obtain ⟨b3, off3, A3, c3, A4, c4, rfl, _, v0, v1, v2, v3, v4, v5, _, _, b3a, b4a, _⟩ := (HL5.out.new hK).at_ hlk
   generalize p.later[k] = y at *
   have HHC := Lib.hid (fun W (h : New wr W) => head24_any _ _ _ _ A1 A2 A3 A4 c1 c2 c3 c4 y W (b1.new h) (b2.new h) (b3a.new h) (b4a.new h))
   clear b1 b2 b3a b4a
   have HK := Lib.hid hK
   clear hK hbx hby
   go_upto_region 7 with fail
   have n9 : ∀ W, New wr W → W.cell? ⟨gx, 9, none⟩ = _ := fun W h => h.cell_some x9 trivial
   have m9 : ∀ W, New wr W → W.cell? ⟨gb + 1, 9, none⟩ = _ := fun W h => h.cell_some y9 trivial
   have s0 : ∀ W, New wr W → W.cell? _ = _ := fun W h => h.cell_some u0 trivial
   have t0 : ∀ W, New wr W → W.cell? _ = _ := fun W h => h.cell_some v0 trivial
   have s1 : ∀ W, New wr W → W.cell? _ = _ := fun W h => h.cell_some u1 trivial
   have t1 : ∀ W, New wr W → W.cell? _ = _ := fun W h => h.cell_some v1 trivial
   have s2 : ∀ W, New wr W → W.cell? _ = _ := fun W h => h.cell_some u2 trivial
   have t2 : ∀ W, New wr W → W.cell? _ = _ := fun W h => h.cell_some v2 trivial
   have s3 : ∀ W, New wr W → W.cell? _ = _ := fun W h => h.cell_some u3 trivial
   have t3 : ∀ W, New wr W → W.cell? _ = _ := fun W h => h.cell_some v3 trivial
   have s4 : ∀ W, New wr W → W.cell? _ = _ := fun W h => h.cell_some u4 trivial
   have t4 : ∀ W, New wr W → W.cell? _ = _ := fun W h => h.cell_some v4 trivial
   have s5 : ∀ W, New wr W → W.cell? _ = _ := fun W h => h.cell_some u5 trivial
   have t5 : ∀ W, New wr W → W.cell? _ = _ := fun W h => h.cell_some v5 trivial
   clear x9 y9 u0 u1 u2 u3 u4 u5 v0 v1 v2 v3 v4 v5
   refine hold_begin (by kernel_rfl) ?_
   have n0 : New wr wr.drew := (New.refl wr).drew
   replace n9 := fun W (hW : New wr.drew W) => n9 W (Keep.new n0 hW)
   replace m9 := fun W (hW : New wr.drew W) => m9 W (Keep.new n0 hW)
   replace s0 := fun W (hW : New wr.drew W) => s0 W (Keep.new n0 hW)
   replace s1 := fun W (hW : New wr.drew W) => s1 W (Keep.new n0 hW)
   replace s2 := fun W (hW : New wr.drew W) => s2 W (Keep.new n0 hW)
   replace s3 := fun W (hW : New wr.drew W) => s3 W (Keep.new n0 hW)
   replace s4 := fun W (hW : New wr.drew W) => s4 W (Keep.new n0 hW)
   replace s5 := fun W (hW : New wr.drew W) => s5 W (Keep.new n0 hW)
   replace t0 := fun W (hW : New wr.drew W) => t0 W (Keep.new n0 hW)
   replace t1 := fun W (hW : New wr.drew W) => t1 W (Keep.new n0 hW)
   replace t2 := fun W (hW : New wr.drew W) => t2 W (Keep.new n0 hW)
   replace t3 := fun W (hW : New wr.drew W) => t3 W (Keep.new n0 hW)
   replace t4 := fun W (hW : New wr.drew W) => t4 W (Keep.new n0 hW)
   replace t5 := fun W (hW : New wr.drew W) => t5 W (Keep.new n0 hW)
   refine take1 0 ?_
   refine take1 1 ?_
   refine take1 2 ?_
   refine take1 3 ?_
   refine take1 4 ?_
   refine take1 5 ?_
   refine take1 6 ?_
   refine take1 7 ?_
   refine take1 8 ?_
   refine take1 9 ?_
   refine hold_step (i := 10) (by kernel_rfl) rfl rfl (fun K hK => ?_)
   go_simp
   refine (HHC.out _ n0).mono ?_
   rintro e w6 ⟨rfl, k6⟩
   go_wp2_with fail
   refine hK.out _ _ k6 ?_
   clear hK K
   try simp only [Act.put, ly1, ly2, ly3, ly4, ly5, ly6]
   replace n0 := Keep.new n0 k6
   replace n9 := fun W (hW : New w6 W) => n9 W (Keep.new k6 hW)
   replace m9 := fun W (hW : New w6 W) => m9 W (Keep.new k6 hW)
   replace s0 := fun W (hW : New w6 W) => s0 W (Keep.new k6 hW)
   replace s1 := fun W (hW : New w6 W) => s1 W (Keep.new k6 hW)
   replace s2 := fun W (hW : New w6 W) => s2 W (Keep.new k6 hW)
   replace s3 := fun W (hW : New w6 W) => s3 W (Keep.new k6 hW)
   replace s4 := fun W (hW : New w6 W) => s4 W (Keep.new k6 hW)
   replace s5 := fun W (hW : New w6 W) => s5 W (Keep.new k6 hW)
   replace t0 := fun W (hW : New w6 W) => t0 W (Keep.new k6 hW)
   replace t1 := fun W (hW : New w6 W) => t1 W (Keep.new k6 hW)
   replace t2 := fun W (hW : New w6 W) => t2 W (Keep.new k6 hW)
   replace t3 := fun W (hW : New w6 W) => t3 W (Keep.new k6 hW)
   replace t4 := fun W (hW : New w6 W) => t4 W (Keep.new k6 hW)
   replace t5 := fun W (hW : New w6 W) => t5 W (Keep.new k6 hW)
   refine take1 11 ?_
   refine wpAnyH_done (by kernel_rfl) ?_ _
   clear n9 m9 s0 s1 s2 s3 s4 s5 t0 t1 t2 t3 t4 t5
   go_wp2_with fail
   go_roundw
   case rel => exact ⟨k + 1, by omega, by go_num, HK.out.new n0⟩
   case measure => simp [intOf]; omega
  ·obtain rfl : k = q := by omega
   have HK := Lib.hid (HN5.out.new hK)
   clear hK hbx hby
   go_wp2_with fail
   go_ret
   exact ⟨rfl, HK.out⟩
end Go.Proofs.YtfegdgaanmcecaaGreatDoor
