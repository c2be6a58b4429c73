/-
  PROVED HERE: permafrostlaw24's check, write and read answer true; conditions: lengths that a slice may have.
-/
import Derived.Test.YtfegdgaanmcecaaGreatDoorPkN34
import Derived.Test.YtfegdgaanmcecaaGreatDoorPkN46
namespace Go.Proofs.YtfegdgaanmcecaaGreatDoor
open Go.RowKit
theorem good_small {p : ProofP} (h : rightProof p = true) : SmallP p := by
 obtain ⟨h1, h2, h3, h4, h5, h6⟩ := right_parts h
 refine ⟨by omega, fun b hb => ?_, by have := (fine_parts h6).2.1; omega, by omega⟩
 have := List.all_eq_true.1 h4 b hb
 simp at this
 omega
theorem decode_right (bs : List UInt8) : (decodeOf bs).1 = noProof ∨ rightProof (decodeOf bs).1 = true := by
 by_cases h : (decParts bs).2.endOf = 0 ∧ rightProof (decParts bs).1 = true
 ·right; unfold decodeOf; rw [if_pos h]; exact h.2
 ·left; unfold decodeOf; rw [if_neg h]
theorem decode_few (bs : List UInt8) : (decodeOf bs).1.later.length ≤ 65535 ∧ (decodeOf bs).1.path.length ≤ 255 := by
 rcases decode_right bs with h | h
 ·rw [h]; exact ⟨by decide, by decide⟩
 ·have := right_parts h; exact ⟨this.2.2.1, this.2.1⟩
set_option maxRecDepth 100000 in
set_option maxHeartbeats 4000000 in
theorem check24l_any (D E G : Nat → Prop) (A P1 R1 L1 Pa1 La1 : Option Addr) (n c p1 r1 lc1 pc1 lac1 : Nat) (hd : List UInt8) (p : ProofP) (w : World) (hA : Bs w D A n hd) (h : PrAt w E p P1 R1 L1 Pa1 p1 r1 lc1 pc1) (hLa : Heads w G La1 p.later.length p.later) (hs : SmallP p) :
  Calls Tryz.prog 22 #[.slice A n c, .agg #[.int .i64 p.head.index, .int .u64 p.head.first, .int .i64 p.head.count, .int .i64 p.head.bytes, .slice P1 p.head.prev.length p1, .slice R1 p.head.root.length r1, .int .i64 p.place, .slice L1 p.leaf.length lc1, .slice Pa1 p.path.length pc1, .slice La1 p.later.length lac1]] w fun e w' => e = .returned (.bool true) ∧ New w w' := by
 have kB := (New.refl w).alloc (.cells #[.int .i64 p.head.index, .int .u64 p.head.first, .int .i64 p.head.count, .int .i64 p.head.bytes, .slice P1 p.head.prev.length p1, .slice R1 p.head.root.length r1, .int .i64 p.place, .slice L1 p.leaf.length lc1, .slice Pa1 p.path.length pc1, .slice La1 p.later.length lac1] 50)
 have hX := heap_alloc_new w (.cells #[.int .i64 p.head.index, .int .u64 p.head.first, .int .i64 p.head.count, .int .i64 p.head.bytes, .slice P1 p.head.prev.length p1, .slice R1 p.head.root.length r1, .int .i64 p.place, .slice L1 p.leaf.length lc1, .slice Pa1 p.path.length pc1, .slice La1 p.later.length lac1] 50)
 have HA := Lib.hid (Row.new hA kB)
 have HH := Lib.hid (h.new kB)
 have HLa := Lib.hid (hLa.new kB)
 have HX := Lib.hid hX
 have HN := Lib.hid kB
 have HS := Lib.hid hs
 clear hA h hLa hX kB hs
 go_enter Tryz.func22, Tryz.ntmps22
 go_upto_region 1 with fail
 generalize w.alloc (.cells #[.int .i64 p.head.index, .int .u64 p.head.first, .int .i64 p.head.count, .int .i64 p.head.bytes, .slice P1 p.head.prev.length p1, .slice R1 p.head.root.length r1, .int .i64 p.place, .slice L1 p.leaf.length lc1, .slice Pa1 p.path.length pc1, .slice La1 p.later.length lac1] 50) = w0 at *
 generalize w.heap.size = gb at *
 obtain ⟨x0, x1, x2, x3, x4, x5, x6, x7, x8, x9⟩ := cs10 HX.out
 have HOU := Lib.hid (out24_any _ P1 R1 L1 Pa1 La1 p1 r1 lc1 pc1 p.later.length lac1 p w0 HLa.out (by have := HS.out.later; omega))
 go_wp2_with fail
 clear x0 x1 x2 x3 x4 x5 x6 x7 x8 x9
 refine HOU.out.mono ?_
 rintro e w1 ⟨⟨A5, c5, rfl, o5⟩, k1⟩
 have HA := Lib.hid (Row.new HA.out k1)
 have HH := Lib.hid (HH.out.new k1)
 have HLa := Lib.hid (HLa.out.new k1)
 have HX := Lib.hid (k1.blockAt HX.out trivial)
 have HN := Lib.hid (HN.out.new k1)
 have HCK := Lib.hid (check_pr (c := c) (lac := c5) HA.out HH.out o5.heads HS.out)
 have HD : Hid (∀ W, New w1 W → Calls Tryz.prog 19 #[.slice A n c, .agg #[.int .i64 p.head.index, .int .u64 p.head.first, .int .i64 p.head.count, .int .i64 p.head.bytes, .slice P1 p.head.prev.length p1, .slice R1 p.head.root.length r1, .int .i64 p.place, .slice L1 p.leaf.length lc1, .slice Pa1 p.path.length pc1, .slice La1 p.later.length lac1]] W (CheckRet (checkProof hd p) W)) := Lib.hid fun W hW => check24_pr (Row.new HA.out hW) (HH.out.new hW) (HLa.out.new hW) HS.out
 clear k1 o5 HOU
 generalize checkProof hd p = co at *
 go_wp2_with fail
 refine HCK.out.mono ?_
 rintro e w2 ⟨⟨B6, c6, rfl, b6⟩, k2⟩
 have kA := k2.alloc (.cells #[.int .i64 (recOr co).kind, .int .u64 (recOr co).seq, .slice B6 (recOr co).body.length c6] 42)
 have hY := heap_alloc_new w2 (.cells #[.int .i64 (recOr co).kind, .int .u64 (recOr co).seq, .slice B6 (recOr co).body.length c6] 42)
 have HB6 := Lib.hid (Row.new b6 ((New.refl w2).alloc (.cells #[.int .i64 (recOr co).kind, .int .u64 (recOr co).seq, .slice B6 (recOr co).body.length c6] 42)))
 have HX := Lib.hid (kA.blockAt HX.out trivial)
 have HD := Lib.hid (fun W hW => HD.out W (kA.new hW))
 have HN := Lib.hid (HN.out.new kA)
 have HY := Lib.hid hY
 clear k2 kA hY b6 HCK
 go_upto_region 2 with fail
 generalize w2.alloc (.cells #[.int .i64 (recOr co).kind, .int .u64 (recOr co).seq, .slice B6 (recOr co).body.length c6] 42) = w3 at *
 generalize w2.heap.size = g2 at *
 obtain ⟨x0, x1, x2, x3, x4, x5, x6, x7, x8, x9⟩ := cs10 HX.out
 go_wp2_with fail
 clear x0 x1 x2 x3 x4 x5 x6 x7 x8 x9
 refine (HD.out w3 (New.refl _)).mono ?_
 rintro e w4 ⟨⟨B7, c7, rfl, b7⟩, k4⟩
 have kA := k4.alloc (.cells #[.int .i64 (recOr co).kind, .int .u64 (recOr co).seq, .slice B7 (recOr co).body.length c7] 53)
 have hZ := heap_alloc_new w4 (.cells #[.int .i64 (recOr co).kind, .int .u64 (recOr co).seq, .slice B7 (recOr co).body.length c7] 53)
 have hb7 := Row.new b7 ((New.refl w4).alloc (.cells #[.int .i64 (recOr co).kind, .int .u64 (recOr co).seq, .slice B7 (recOr co).body.length c7] 53))
 have hb6 := Row.new HB6.out kA
 have hY := kA.blockAt HY.out trivial
 have HN := Lib.hid (HN.out.new kA)
 clear k4 kA b7 HD HB6 HY
 go_upto_region 3 with fail
 generalize w4.alloc (.cells #[.int .i64 (recOr co).kind, .int .u64 (recOr co).seq, .slice B7 (recOr co).body.length c7] 53) = w5 at *
 generalize w4.heap.size = g4 at *
 generalize recOr co = rr at *
 generalize co.isSome = bb at *
 obtain ⟨y0, y1, y2⟩ := cs3 hY
 obtain ⟨z0, z1, z2⟩ := cs3 hZ
 have hr1 := run_str (c := c6) hb6
 have hr2 := run_str (c := c7) hb7
 clear hb6 hb7 hY hZ
 have hbb : (bb == bb) = true := by cases bb <;> rfl
 go_wp2_with fail
 go_ret
 exact ⟨rfl, HN.out⟩
set_option maxRecDepth 100000 in
set_option maxHeartbeats 4000000 in
theorem write24_any (E G : Nat → Prop) (P1 R1 L1 Pa1 La1 : Option Addr) (p1 r1 lc1 pc1 lac1 : Nat) (p : ProofP) (w : World) (h : PrAt w E p P1 R1 L1 Pa1 p1 r1 lc1 pc1) (hLa : Heads w G La1 p.later.length p.later) (hs : SmallP p) (hq1 : p.path.length ≤ 9223372036854775806) :
  Calls Tryz.prog 23 #[.agg #[.int .i64 p.head.index, .int .u64 p.head.first, .int .i64 p.head.count, .int .i64 p.head.bytes, .slice P1 p.head.prev.length p1, .slice R1 p.head.root.length r1, .int .i64 p.place, .slice L1 p.leaf.length lc1, .slice Pa1 p.path.length pc1, .slice La1 p.later.length lac1]] w fun e w' => e = .returned (.bool true) ∧ New w w' := by
 have hq2 : p.later.length ≤ 9223372036854775806 := by have := hs.later; omega
 have kB := (New.refl w).alloc (.cells #[.int .i64 p.head.index, .int .u64 p.head.first, .int .i64 p.head.count, .int .i64 p.head.bytes, .slice P1 p.head.prev.length p1, .slice R1 p.head.root.length r1, .int .i64 p.place, .slice L1 p.leaf.length lc1, .slice Pa1 p.path.length pc1, .slice La1 p.later.length lac1] 50)
 have hX := heap_alloc_new w (.cells #[.int .i64 p.head.index, .int .u64 p.head.first, .int .i64 p.head.count, .int .i64 p.head.bytes, .slice P1 p.head.prev.length p1, .slice R1 p.head.root.length r1, .int .i64 p.place, .slice L1 p.leaf.length lc1, .slice Pa1 p.path.length pc1, .slice La1 p.later.length lac1] 50)
 have HH := Lib.hid (h.new kB)
 have HLa := Lib.hid (hLa.new kB)
 have HX := Lib.hid hX
 have HN := Lib.hid kB
 have HS := Lib.hid hs
 have HQ := Lib.hid (And.intro hq1 hq2)
 clear h hLa hX kB hs hq1 hq2
 go_enter Tryz.func23, Tryz.ntmps23
 go_upto_region 1 with fail
 generalize w.alloc (.cells #[.int .i64 p.head.index, .int .u64 p.head.first, .int .i64 p.head.count, .int .i64 p.head.bytes, .slice P1 p.head.prev.length p1, .slice R1 p.head.root.length r1, .int .i64 p.place, .slice L1 p.leaf.length lc1, .slice Pa1 p.path.length pc1, .slice La1 p.later.length lac1] 50) = w0 at *
 generalize w.heap.size = gb at *
 obtain ⟨x0, x1, x2, x3, x4, x5, x6, x7, x8, x9⟩ := cs10 HX.out
 have HOU := Lib.hid (out24_any _ P1 R1 L1 Pa1 La1 p1 r1 lc1 pc1 p.later.length lac1 p w0 HLa.out (by have := HS.out.later; omega))
 go_wp2_with fail
 clear x0 x1 x2 x3 x4 x5 x6 x7 x8 x9
 refine HOU.out.mono ?_
 rintro e w1 ⟨⟨A5, c5, rfl, o5⟩, k1⟩
 have HH := Lib.hid (HH.out.new k1)
 have HLa := Lib.hid (HLa.out.new k1)
 have HX := Lib.hid (k1.blockAt HX.out trivial)
 have HN := Lib.hid (HN.out.new k1)
 have HE := Lib.hid (pencode_any E _ P1 R1 L1 Pa1 A5 p1 r1 lc1 pc1 c5 p w1 HH.out o5.heads HQ.out.1 HQ.out.2)
 have HR : Hid (∀ W, New w1 W → _) := Lib.hid fun W hW => rencode_any E G P1 R1 L1 Pa1 La1 p1 r1 lc1 pc1 lac1 p W (HH.out.new hW) (HLa.out.new hW) HQ.out.1 HQ.out.2
 clear k1 o5 HOU
 generalize encodeOf p = eo at *
 obtain ⟨bs, why⟩ := eo
 dsimp only at HE HR
 go_wp2_with fail
 refine HE.out.mono ?_
 rintro e w2 ⟨⟨B6, c6, rfl, b6⟩, k2⟩
 have HB6 := Lib.hid (Row.of_own b6)
 have HX := Lib.hid (k2.blockAt HX.out trivial)
 have HR := Lib.hid (HR.out w2 k2)
 have HN := Lib.hid (HN.out.new k2)
 clear k2 b6 HE
 obtain ⟨x0, x1, x2, x3, x4, x5, x6, x7, x8, x9⟩ := cs10 HX.out
 go_wp2_with fail
 clear x0 x1 x2 x3 x4 x5 x6 x7 x8 x9
 refine HR.out.mono ?_
 rintro e w3 ⟨⟨B7, c7, rfl, b7⟩, k3⟩
 have hr1 := run_str (c := c6) (Row.new HB6.out k3)
 have hr2 := run_str (c := c7) (Row.of_own b7)
 have HN := Lib.hid (HN.out.new k3)
 clear b7 k3 HR HB6
 go_wp2_with fail
 go_ret
 exact ⟨rfl, HN.out⟩
set_option maxRecDepth 100000 in
set_option maxHeartbeats 4000000 in
theorem read24_any (D : Nat → Prop) (A : Option Addr) (n c : Nat) (bs : List UInt8) (w : World) (hB : Bs w D A n bs) (hn : n ≤ 1099511627776) (hnc : n ≤ c) (hc9 : c ≤ 9223372036854775807) :
  Calls Tryz.prog 24 #[.slice A n c] w fun e w' => e = .returned (.bool true) ∧ New w w' := by
 have HP := Lib.hid (pdecode_any D A n c bs w hB hn)
 have HR : Hid (∀ W, New w W → _) := Lib.hid fun W hW => rdecode_any D A n c bs W (Row.new hB hW) hn hnc hc9
 have hf := decode_few bs
 generalize decodeOf bs = d at *
 obtain ⟨d, why⟩ := d
 dsimp only at hf
 have HF := Lib.hid hf
 clear hf hB
 go_enter Tryz.func24, Tryz.ntmps24
 go_wp2_with fail
 refine HP.out.mono ?_
 rintro e w1 ⟨⟨P1, R1, L1, Pa1, La1, p1, r1, lc1, pc1, lac1, rfl, hp, ho⟩, k1⟩
 dsimp only at hp ho ⊢
 have kA := (New.refl w1).alloc (.cells #[.int .i64 d.head.index, .int .u64 d.head.first, .int .i64 d.head.count, .int .i64 d.head.bytes, .slice P1 d.head.prev.length p1, .slice R1 d.head.root.length r1, .int .i64 d.place, .slice L1 d.leaf.length lc1, .slice Pa1 d.path.length pc1, .slice La1 d.later.length lac1] 36)
 have hX := heap_alloc_new w1 (.cells #[.int .i64 d.head.index, .int .u64 d.head.first, .int .i64 d.head.count, .int .i64 d.head.bytes, .slice P1 d.head.prev.length p1, .slice R1 d.head.root.length r1, .int .i64 d.place, .slice L1 d.leaf.length lc1, .slice Pa1 d.path.length pc1, .slice La1 d.later.length lac1] 36)
 have HP1 := Lib.hid (hp.new kA)
 have HO1 := Lib.hid (ho.new kA)
 have HN := Lib.hid (k1.new kA)
 have HX := Lib.hid hX
 clear hp ho k1 kA hX HP
 go_upto_region 2 with fail
 generalize w1.alloc (.cells #[.int .i64 d.head.index, .int .u64 d.head.first, .int .i64 d.head.count, .int .i64 d.head.bytes, .slice P1 d.head.prev.length p1, .slice R1 d.head.root.length r1, .int .i64 d.place, .slice L1 d.leaf.length lc1, .slice Pa1 d.path.length pc1, .slice La1 d.later.length lac1] 36) = w2 at *
 generalize w1.heap.size = g1 at *
 go_wp2_with fail
 refine (HR.out w2 HN.out).mono ?_
 rintro e w3 ⟨⟨P2, R2, L2, Pa2, La2, p2, r2, lc2, pc2, lac2, rfl, hp, ho⟩, k3⟩
 dsimp only at hp ho ⊢
 have kA := (New.refl w3).alloc (.cells #[.int .i64 d.head.index, .int .u64 d.head.first, .int .i64 d.head.count, .int .i64 d.head.bytes, .slice P2 d.head.prev.length p2, .slice R2 d.head.root.length r2, .int .i64 d.place, .slice L2 d.leaf.length lc2, .slice Pa2 d.path.length pc2, .slice La2 d.later.length lac2] 50)
 have hZ := heap_alloc_new w3 (.cells #[.int .i64 d.head.index, .int .u64 d.head.first, .int .i64 d.head.count, .int .i64 d.head.bytes, .slice P2 d.head.prev.length p2, .slice R2 d.head.root.length r2, .int .i64 d.place, .slice L2 d.leaf.length lc2, .slice Pa2 d.path.length pc2, .slice La2 d.later.length lac2] 50)
 have hx := (k3.new kA).blockAt HX.out trivial
 have HAL := Lib.hid (alike24_any _ _ _ _ P1 R1 L1 Pa1 La1 P2 R2 L2 Pa2 La2 p1 r1 lc1 pc1 lac1 p2 r2 lc2 pc2 lac2 d.later.length d (w3.alloc (.cells #[.int .i64 d.head.index, .int .u64 d.head.first, .int .i64 d.head.count, .int .i64 d.head.bytes, .slice P2 d.head.prev.length p2, .slice R2 d.head.root.length r2, .int .i64 d.place, .slice L2 d.leaf.length lc2, .slice Pa2 d.path.length pc2, .slice La2 d.later.length lac2] 50)) (HP1.out.new (k3.new kA)) (HO1.out.new (k3.new kA)) (hp.new kA) (ho.new kA) (by have := HF.out; omega))
 have HN := Lib.hid (HN.out.new (k3.new kA))
 clear hp ho kA k3 HR HP1 HO1
 go_upto_region 3 with fail
 generalize w3.alloc (.cells #[.int .i64 d.head.index, .int .u64 d.head.first, .int .i64 d.head.count, .int .i64 d.head.bytes, .slice P2 d.head.prev.length p2, .slice R2 d.head.root.length r2, .int .i64 d.place, .slice L2 d.leaf.length lc2, .slice Pa2 d.path.length pc2, .slice La2 d.later.length lac2] 50) = w4 at *
 generalize w3.heap.size = g3 at *
 obtain ⟨x0, x1, x2, x3, x4, x5, x6, x7, x8, x9⟩ := cs10 hx
 obtain ⟨z0, z1, z2, z3, z4, z5, z6, z7, z8, z9⟩ := cs10 hZ
 clear hx hZ
 go_wp2_with fail
 clear x0 x1 x2 x3 x4 x5 x6 x7 x8 x9
 clear z0 z1 z2 z3 z4 z5 z6 z7 z8 z9
 refine HAL.out.mono ?_
 rintro e w5 ⟨rfl, k5⟩
 go_wp2_with fail
 go_ret
 exact ⟨rfl, HN.out.new k5⟩
end Go.Proofs.YtfegdgaanmcecaaGreatDoor
