/-
  PROVED HERE: what permafrostref24's short, rightHead, head and Encode answer; condition: lengths that a slice may have.
-/
import Derived.Test.YtfegdgaanmcecaaGreatDoorPkN39
namespace Go.Proofs.YtfegdgaanmcecaaGreatDoor
open Go.RowKit
set_option maxRecDepth 100000 in
theorem short24_any (n : Int) (w : World) : Calls Tryz.prog 53 #[.int .i64 n] w fun e w' => e = .returned (.bool (shortB n)) ∧ w = w' := by
 by_cases h1 : 0 ≤ n
 ·by_cases h2 : n ≤ 65535
  ·have HS := Lib.hid (shortB_in (n := n) (by omega) (by omega))
   go_enter Tryz.func53, Tryz.ntmps53
   go_wp2_with fail
   go_ret
   exact ⟨by rw [HS.out]; rfl, rfl⟩
  ·have HS := Lib.hid (shortB_hi (n := n) (by omega))
   go_enter Tryz.func53, Tryz.ntmps53
   go_wp2_with fail
   go_ret
   exact ⟨by rw [HS.out]; rfl, rfl⟩
 ·have HS := Lib.hid (shortB_lo (n := n) (by omega))
  go_enter Tryz.func53, Tryz.ntmps53
  go_wp2_with fail
  go_ret
  exact ⟨by rw [HS.out]; rfl, rfl⟩
set_option maxRecDepth 100000 in
set_option maxHeartbeats 2000000 in
theorem rhead24_any (P1 R1 : Option Addr) (p1 r1 : Nat) (h : HeadP) (w : World) : Calls Tryz.prog 52 #[.agg #[.int .i64 h.index, .int .u64 h.first, .int .i64 h.count, .int .i64 h.bytes, .slice P1 h.prev.length p1, .slice R1 h.root.length r1]] w fun e w' => e = .returned (.bool (fineHead h)) ∧ New w w' := by
 have hN : New w (w.alloc (.cells #[.int .i64 h.index, .int .u64 h.first, .int .i64 h.count, .int .i64 h.bytes, .slice P1 h.prev.length p1, .slice R1 h.root.length r1] 40)) := (New.refl w).alloc _
 have hX := heap_alloc_new w (.cells #[.int .i64 h.index, .int .u64 h.first, .int .i64 h.count, .int .i64 h.bytes, .slice P1 h.prev.length p1, .slice R1 h.root.length r1] 40)
 have HN := Lib.hid hN
 have HFH : Hid (fineHead h = ((shortB h.index && (shortB h.count && shortB h.bytes)) && (decide (h.first ≤ 1099511627776) && (decide (h.prev.length = 32) && decide (h.root.length = 32))))) := Lib.hid rfl
 obtain ⟨x0, x1, x2, x3, x4, x5⟩ := cs6 hX
 clear hX hN
 go_enter Tryz.func52, Tryz.ntmps52
 go_wp2_with fail
 generalize w.alloc (.cells #[.int .i64 h.index, .int .u64 h.first, .int .i64 h.count, .int .i64 h.bytes, .slice P1 h.prev.length p1, .slice R1 h.root.length r1] 40) = w1 at *
 refine (short24_any h.index w1).mono ?_
 rintro e w' ⟨rfl, rfl⟩
 cases hs0 : shortB h.index
 ·skip
  have HS0 := Lib.hid hs0
  clear hs0
  have HR : Hid (fineHead h = false) := Lib.hid (by rw [HFH.out, HS0.out]; simp)
  clear HFH
  go_wp2_with fail
  go_ret
  exact ⟨by rw [HR.out]; rfl, HN.out⟩
 ·skip
  have HS0 := Lib.hid hs0
  clear hs0
  go_wp2_with fail
  refine (short24_any h.count w1).mono ?_
  rintro e w' ⟨rfl, rfl⟩
  cases hs1 : shortB h.count
  ·skip
   have HS1 := Lib.hid hs1
   clear hs1
   have HR : Hid (fineHead h = false) := Lib.hid (by rw [HFH.out, HS0.out, HS1.out]; simp)
   clear HFH
   go_wp2_with fail
   go_ret
   exact ⟨by rw [HR.out]; rfl, HN.out⟩
  ·skip
   have HS1 := Lib.hid hs1
   clear hs1
   go_wp2_with fail
   refine (short24_any h.bytes w1).mono ?_
   rintro e w' ⟨rfl, rfl⟩
   cases hs2 : shortB h.bytes
   ·skip
    have HS2 := Lib.hid hs2
    clear hs2
    have HR : Hid (fineHead h = false) := Lib.hid (by rw [HFH.out, HS0.out, HS1.out, HS2.out]; simp)
    clear HFH
    go_wp2_with fail
    go_ret
    exact ⟨by rw [HR.out]; rfl, HN.out⟩
   ·skip
    have HS2 := Lib.hid hs2
    clear hs2
    by_cases h1 : h.first ≤ 1099511627776
    ·have e1 := Lib.hid (decide_eq_true h1)
     by_cases h2 : h.prev.length = 32
     ·have h2' : ((h.prev.length : Int) == 32) = true := by rw [beq_iff_eq]; omega
      have e2 := Lib.hid (decide_eq_true h2)
      clear h2
      by_cases h3 : h.root.length = 32
      ·have h3' : ((h.root.length : Int) == 32) = true := by rw [beq_iff_eq]; omega
       have e3 := Lib.hid (decide_eq_true h3)
       clear h3
       have HR : Hid (fineHead h = true) := Lib.hid (by rw [HFH.out, HS0.out, HS1.out, HS2.out, e1.out, e2.out, e3.out]; simp)
       clear HFH
       go_wp2_with fail
       go_ret
       exact ⟨by rw [HR.out]; rfl, HN.out⟩
      ·have h3' : ((h.root.length : Int) == 32) = false := by rw [beq_eq_false_iff_ne]; omega
       have e3 := Lib.hid (decide_eq_false h3)
       clear h3
       have HR : Hid (fineHead h = false) := Lib.hid (by rw [HFH.out, HS0.out, HS1.out, HS2.out, e1.out, e2.out, e3.out]; simp)
       clear HFH
       go_wp2_with fail
       go_ret
       exact ⟨by rw [HR.out]; rfl, HN.out⟩
     ·have h2' : ((h.prev.length : Int) == 32) = false := by rw [beq_eq_false_iff_ne]; omega
      have e2 := Lib.hid (decide_eq_false h2)
      clear h2
      have HR : Hid (fineHead h = false) := Lib.hid (by rw [HFH.out, HS0.out, HS1.out, HS2.out, e1.out, e2.out]; simp)
      clear HFH
      go_wp2_with fail
      go_ret
      exact ⟨by rw [HR.out]; rfl, HN.out⟩
    ·have e1 := Lib.hid (decide_eq_false h1)
     have HR : Hid (fineHead h = false) := Lib.hid (by rw [HFH.out, HS0.out, HS1.out, HS2.out, e1.out]; simp)
     clear HFH
     go_wp2_with fail
     go_ret
     exact ⟨by rw [HR.out]; rfl, HN.out⟩
set_option maxRecDepth 100000 in
set_option maxHeartbeats 4000000 in
theorem headb24_any (D E : Nat → Prop) (A P1 R1 : Option Addr) (n c p1 r1 : Nat) (h : HeadP) (bs : List UInt8) (w : World) (hB : Bs w D A n bs) (hP : Bs w E P1 h.prev.length h.prev) (hR : Bs w E R1 h.root.length h.root) (hf0 : 0 ≤ h.first) (hf1 : h.first ≤ 18446744073709551615) (hn : n + h.prev.length + h.root.length ≤ 1099511600000) :
  Calls Tryz.prog 57 #[.slice A n c, .agg #[.int .i64 h.index, .int .u64 h.first, .int .i64 h.count, .int .i64 h.bytes, .slice P1 h.prev.length p1, .slice R1 h.root.length r1]] w (BytesRet (bs ++ headBytes h) w) := by
 have hbl := hB.len
 have kB := (New.refl w).alloc (.cells #[.int .i64 h.index, .int .u64 h.first, .int .i64 h.count, .int .i64 h.bytes, .slice P1 h.prev.length p1, .slice R1 h.root.length r1] 40)
 have hX := heap_alloc_new w (.cells #[.int .i64 h.index, .int .u64 h.first, .int .i64 h.count, .int .i64 h.bytes, .slice P1 h.prev.length p1, .slice R1 h.root.length r1] 40)
 have HB := Lib.hid (Row.new hB kB)
 have HP := Lib.hid (Row.new hP kB)
 have HR := Lib.hid (Row.new hR kB)
 have HN := Lib.hid kB
 have HX := Lib.hid hX
 clear kB hX hB hP hR
 go_enter Tryz.func57, Tryz.ntmps57
 go_upto_region 1 with fail
 generalize w.alloc (.cells #[.int .i64 h.index, .int .u64 h.first, .int .i64 h.count, .int .i64 h.bytes, .slice P1 h.prev.length p1, .slice R1 h.root.length r1] 40) = w1 at *
 generalize hgb : w.heap.size = gb at *
 have x0 := fun W (hW : New w1 W) => cellOf (hW.blockAt HX.out trivial) (k := 0) rfl
 have x1 := fun W (hW : New w1 W) => cellOf (hW.blockAt HX.out trivial) (k := 1) rfl
 have x2 := fun W (hW : New w1 W) => cellOf (hW.blockAt HX.out trivial) (k := 2) rfl
 have x3 := fun W (hW : New w1 W) => cellOf (hW.blockAt HX.out trivial) (k := 3) rfl
 refine hold_begin (by kernel_rfl) ?_
 have n0 : New w1.drew w1.drew := New.refl _
 replace x0 := fun W (hW : New w1.drew W) => x0 W (Keep.new (Keep.drew (New.refl w1)) hW)
 replace x1 := fun W (hW : New w1.drew W) => x1 W (Keep.new (Keep.drew (New.refl w1)) hW)
 replace x2 := fun W (hW : New w1.drew W) => x2 W (Keep.new (Keep.drew (New.refl w1)) hW)
 replace x3 := fun W (hW : New w1.drew W) => x3 W (Keep.new (Keep.drew (New.refl w1)) hW)
 refine take0 0 n0 ?_
 refine take0 1 n0 ?_
 refine take0 2 n0 ?_
 refine take0 4 n0 ?_
 refine take0 5 n0 ?_
 refine take0 7 n0 ?_
 refine take0 8 n0 ?_
 refine take0 10 n0 ?_
 refine take0 11 n0 ?_
 refine hold_step0 (i := 3) (by kernel_rfl) rfl rfl (fun K hK => ?_)
 go_simp
 refine (short4_any D A n c bs h.index _ (Row.new HB.out (Keep.drew (New.refl w1))) (by omega)).mono ?_
 rintro e w2 ⟨⟨A2, c2, rfl, o2⟩, k2⟩; generalize hq2 : bs ++ beI 2 h.index = q2 at *
 go_wp2_with fail
 have n1 := Keep.new n0 k2
 refine hK.out _ _ n1 ?_
 clear hK K
 try simp only [Act.put, ly1, ly2, ly3, ly4, ly5, ly6]
 replace n0 := n1
 clear n1
 refine hold_step0 (i := 6) (by kernel_rfl) rfl rfl (fun K hK => ?_)
 go_simp
 refine (long4_any _ A2 _ c2 q2 h.first w2 (Row.of_own o2) (by rw [← hq2, List.length_append, beI_length]; omega) hf0 hf1).mono ?_
 rintro e w3 ⟨⟨A3, c3, rfl, o3⟩, k3⟩; generalize hq3 : q2 ++ beI 8 h.first = q3 at *
 go_wp2_with fail
 have n1 := Keep.new n0 k3
 refine hK.out _ _ n1 ?_
 clear hK K
 try simp only [Act.put, ly1, ly2, ly3, ly4, ly5, ly6]
 replace n0 := n1
 clear n1
 refine hold_step0 (i := 9) (by kernel_rfl) rfl rfl (fun K hK => ?_)
 go_simp
 refine (short4_any _ A3 _ c3 q3 h.count w3 (Row.of_own o3) (by rw [← hq3, ← hq2]; simp only [List.length_append, beI_length]; omega)).mono ?_
 rintro e w4 ⟨⟨A4, c4, rfl, o4⟩, k4⟩; generalize hq4 : q3 ++ beI 2 h.count = q4 at *
 go_wp2_with fail
 have n1 := Keep.new n0 k4
 refine hK.out _ _ n1 ?_
 clear hK K
 try simp only [Act.put, ly1, ly2, ly3, ly4, ly5, ly6]
 replace n0 := n1
 clear n1
 refine hold_step0 (i := 12) (by kernel_rfl) rfl rfl (fun K hK => ?_)
 go_simp
 refine (short4_any _ A4 _ c4 q4 h.bytes w4 (Row.of_own o4) (by rw [← hq4, ← hq3, ← hq2]; simp only [List.length_append, beI_length]; omega)).mono ?_
 rintro e w5 ⟨⟨A5, c5, rfl, o5⟩, k5⟩; generalize hq5 : q4 ++ beI 2 h.bytes = q5 at *
 go_wp2_with fail
 have n1 := Keep.new n0 k5
 refine hK.out _ _ n1 ?_
 clear hK K
 try simp only [Act.put, ly1, ly2, ly3, ly4, ly5, ly6]
 replace n0 := n1
 clear n1
 refine take0 13 n0 ?_
 refine wpAnyH_done (by kernel_rfl) ?_ _
 have hs4 : w1.heap.size ≤ w4.heap.size := Nat.le_trans (Nat.le_trans (show w1.heap.size ≤ w2.heap.size from k2.size) k3.size) k4.size
 have HQL : Hid (q5.length = n + 14) := Lib.hid (by rw [← hq5, ← hq4, ← hq3, ← hq2]; simp only [List.length_append, beI_length]; omega)
 have HQ : Hid (bs ++ headBytes h = q5 ++ h.prev ++ h.root) := Lib.hid (by rw [← hq5, ← hq4, ← hq3, ← hq2]; unfold headBytes; simp only [List.append_assoc])
 have hO5 := own_base (base := w1.heap.size) o5 hs4
 clear x0 x1 x2 x3 k2 k3 k4 k5 o2 o3 o4 o5 hq2 hq3 hq4 hq5 HB hs4
 have k5d := (Keep.drew (New.refl w1)).new n0
 have HX5 := Lib.hid (k5d.blockAt HX.out trivial)
 have hgl : gb < w1.heap.size := (Array.getElem?_eq_some_iff.1 HX.out).1
 have hp1 := Row.imp HP.out (E := Lo w1.heap.size) (fun b hb _ => hb)
 have hr1 := Row.imp HR.out (E := Lo w1.heap.size) (fun b hb _ => hb)
 generalize hgz : w1.heap.size = gz at *
 have HP5 := Lib.hid (Row.new hp1 k5d)
 have HR5 := Lib.hid (Row.new hr1 k5d)
 have HN5 := Lib.hid (HN.out.new k5d)
 have hs5 : gz ≤ w5.heap.size := by rw [← hgz]; exact k5d.size
 clear n0 k5d HP HR HX HN hp1 hr1
 have y4 : ∀ W, Keep (Lo gz) w5.drew W → W.cell? ⟨gb, 4, none⟩ = some (.slice P1 h.prev.length p1) := fun W h => h.cell_some (a := w5.drew) (show w5.cell? _ = _ from cellOf HX5.out (k := 4) rfl) hgl
 have y5 : ∀ W, Keep (Lo gz) w5.drew W → W.cell? ⟨gb, 5, none⟩ = some (.slice R1 h.root.length r1) := fun W h => h.cell_some (a := w5.drew) (show w5.cell? _ = _ from cellOf HX5.out (k := 5) rfl) hgl
 have hp5 := HP5.out.drew
 have hO5d := Own.keepNew hO5 (Keep.drew (New.refl w5))
 have hs5d : gz ≤ w5.drew.heap.size := hs5
 have hbd1 : q5.length + h.prev.length ≤ 140737488355328 := by have := HQL.out; omega
 have hbd2 : q5.length + h.prev.length + h.root.length ≤ 140737488355328 := by have := HQL.out; omega
 go_upto_region 2 with fail
 refine hold_beginS (Keep (Lo gz) w5.drew) (by kernel_rfl) ?_
 have n0 : Keep (Lo gz) w5.drew w5.drew := Keep.refl _ _
 refine take0 0 n0 ?_
 refine take0 1 n0 ?_
 refine take0 2 n0 ?_
 refine take0 4 n0 ?_
 refine take0 5 n0 ?_
 refine hold_step0 (i := 3) (by kernel_rfl) rfl rfl (fun K hK => ?_)
 refine wp_bytes _ _ _ rfl gz A5 q5.length c5 q5 rfl hO5d _ P1 h.prev.length p1 _ rfl hp5 hbd1 hs5d ?_
 intro A6 c6 w6 o6 hg6 hbk6; have hs6 : gz ≤ w6.heap.size := Nat.le_trans hs5 hg6.size
 have n1 := n0.grown hg6 (fun k hk hd => absurd hd (by have := (own_lt hO5 k hk).1; show ¬ k < gz; omega))
 refine hK.out _ _ n1 ?_
 clear hK K
 try simp only [Act.put, ly1, ly2, ly3, ly4, ly5, ly6]
 replace n0 := n1
 clear n1
 have hr6 := Row.keep (w := w5.drew) HR5.out.drew n0 (fun b _ hb => hb)
 rw [← List.length_append] at o6 hbd2 ⊢
 refine hold_step0 (i := 6) (by kernel_rfl) rfl rfl (fun K hK => ?_)
 refine wp_bytes _ _ _ rfl gz A6 (q5 ++ h.prev).length c6 _ rfl o6 _ R1 h.root.length r1 _ rfl hr6 hbd2 hs6 ?_
 intro A7 c7 w7 o7 hg7 hbk7
 have n1 := n0.grown hg7 (fun k hk hd => absurd hd (by have := (own_lt o6 k hk).1; show ¬ k < gz; omega))
 refine hK.out _ _ n1 ?_
 clear hK K
 try simp only [Act.put, ly1, ly2, ly3, ly4, ly5, ly6]
 replace n0 := n1
 clear n1
 refine take0 7 n0 ?_
 refine wpAnyH_done (by kernel_rfl) ?_ _
 go_wp2_with fail
 go_ret
 have h1 : Keep (Lo gz) w w5.drew := (Keep.of_new HN5.out).drew
 have hNF : New w w7 := (Keep.trans2 h1 n0 (fun i _ hi => hi)).toNew (fun i hi => by show i < gz; omega)
 rw [HQ.out]
 have hO7 := own_base (base := w.heap.size) o7 (show w.heap.size ≤ gz by omega)
 rw [List.length_append] at hO7
 exact BytesRet.mk' rfl hO7 hNF
set_option maxRecDepth 100000 in
set_option maxHeartbeats 4000000 in
theorem rencode_any (D E : Nat → Prop) (P1 R1 L Pa La : Option Addr) (p1 r1 lc pc lac : Nat) (p : ProofP) (w : World) (h : PrAt w D p P1 R1 L Pa p1 r1 lc pc) (hLa : Heads w E La p.later.length p.later) (hq1 : p.path.length ≤ 9223372036854775806) (hq2 : p.later.length ≤ 9223372036854775806) :
  Calls Tryz.prog 21 #[.agg #[.int .i64 p.head.index, .int .u64 p.head.first, .int .i64 p.head.count, .int .i64 p.head.bytes, .slice P1 p.head.prev.length p1, .slice R1 p.head.root.length r1, .int .i64 p.place, .slice L p.leaf.length lc, .slice Pa p.path.length pc, .slice La p.later.length lac]] w fun e w' => (∃ A c, e = .returned (.tuple #[.slice A (encodeOf p).1.length c, .int .i64 (encodeOf p).2]) ∧ OwnB w' w.heap.size 5 A (encodeOf p).1.length c (encodeOf p).1) ∧ New w w' := by
 have kB := (New.refl w).alloc (.cells #[.int .i64 p.head.index, .int .u64 p.head.first, .int .i64 p.head.count, .int .i64 p.head.bytes, .slice P1 p.head.prev.length p1, .slice R1 p.head.root.length r1, .int .i64 p.place, .slice L p.leaf.length lc, .slice Pa p.path.length pc, .slice La p.later.length lac] 50)
 have hX := heap_alloc_new w (.cells #[.int .i64 p.head.index, .int .u64 p.head.first, .int .i64 p.head.count, .int .i64 p.head.bytes, .slice P1 p.head.prev.length p1, .slice R1 p.head.root.length r1, .int .i64 p.place, .slice L p.leaf.length lc, .slice Pa p.path.length pc, .slice La p.later.length lac] 50)
 have HRH := Lib.hid (fun W => rhead24_any P1 R1 p1 r1 p.head W)
 have HSP := Lib.hid (fun W => short24_any p.place W)
 have HH := Lib.hid ((h.imp (E := fun b => b < w.heap.size) fun b hb _ => hb).new kB)
 have HLa := Lib.hid ((hLa.imp (E := fun b => b < w.heap.size) fun b hb _ => hb).new kB)
 have HX := Lib.hid hX
 have HN := Lib.hid kB
 have HPM := Lib.hid (And.intro hq1 hq2)
 clear h hLa hX kB hq1 hq2
 go_enter Tryz.func21, Tryz.ntmps21
 go_upto_region 1 with fail
 generalize w.alloc (.cells #[.int .i64 p.head.index, .int .u64 p.head.first, .int .i64 p.head.count, .int .i64 p.head.bytes, .slice P1 p.head.prev.length p1, .slice R1 p.head.root.length r1, .int .i64 p.place, .slice L p.leaf.length lc, .slice Pa p.path.length pc, .slice La p.later.length lac] 50) = w0 at *
 generalize hgb : w.heap.size = gb at *
 obtain ⟨y0, y1, y2, y3, y4, y5⟩ := cs6 HX.out
 obtain ⟨b0, hb0⟩ : ∃ b0, b0 = (fineHead p.head && (shortB p.place && (decide (p.leaf.length ≤ 65535) && (decide (p.path.length ≤ 255) && decide (p.later.length ≤ 65535))))) := ⟨_, rfl⟩
 have HB0 := Lib.hid hb0
 clear hb0
 go_cut [4] (fun s4 wx => s4 = .bool b0 ∧ New w0 wx)
 case first =>
  go_wp2_with fail
  clear y0 y1 y2 y3 y4 y5
  refine (HRH.out w0).mono ?_
  rintro e w1 ⟨rfl, k1⟩
  have y6 := cellOf (k1.blockAt HX.out trivial) (k := 6) rfl
  have y7 := cellOf (k1.blockAt HX.out trivial) (k := 7) rfl
  have y8 := cellOf (k1.blockAt HX.out trivial) (k := 8) rfl
  have y9 := cellOf (k1.blockAt HX.out trivial) (k := 9) rfl
  cases hf : fineHead p.head
  ·have HF := Lib.hid hf
   clear hf
   have HR : Hid (b0 = false) := Lib.hid (by rw [HB0.out, HF.out]; simp)
   clear HB0
   go_wp2_with fail
   go_meet
   exact ⟨by rw [HR.out], k1⟩
  ·have HF := Lib.hid hf
   clear hf
   go_wp2_with fail
   refine (HSP.out w1).mono ?_
   rintro e w' ⟨rfl, rfl⟩
   cases hs : shortB p.place
   ·have HS := Lib.hid hs
    clear hs
    have HR : Hid (b0 = false) := Lib.hid (by rw [HB0.out, HF.out, HS.out]; simp)
    clear HB0
    go_wp2_with fail
    go_meet
    exact ⟨by rw [HR.out], k1⟩
   ·have HS := Lib.hid hs
    clear hs
    by_cases c0 : (p.leaf.length : Int) ≤ 65535
    rotate_left
    ·have C0 := Lib.hid (decide_eq_false (show ¬ p.leaf.length ≤ 65535 from by omega))
     have HR : Hid (b0 = false) := Lib.hid (by rw [HB0.out, HF.out, HS.out, C0.out]; simp)
     clear HB0
     go_wp2_with fail
     go_meet
     exact ⟨by rw [HR.out], k1⟩
    have C0 := Lib.hid (decide_eq_true (show p.leaf.length ≤ 65535 from by omega))
    by_cases c1 : (p.path.length : Int) ≤ 255
    rotate_left
    ·have C1 := Lib.hid (decide_eq_false (show ¬ p.path.length ≤ 255 from by omega))
     have HR : Hid (b0 = false) := Lib.hid (by rw [HB0.out, HF.out, HS.out, C0.out, C1.out]; simp)
     clear HB0
     go_wp2_with fail
     go_meet
     exact ⟨by rw [HR.out], k1⟩
    have C1 := Lib.hid (decide_eq_true (show p.path.length ≤ 255 from by omega))
    by_cases c2 : (p.later.length : Int) ≤ 65535
    rotate_left
    ·have C2 := Lib.hid (decide_eq_false (show ¬ p.later.length ≤ 65535 from by omega))
     have HR : Hid (b0 = false) := Lib.hid (by rw [HB0.out, HF.out, HS.out, C0.out, C1.out, C2.out]; simp)
     clear HB0
     go_wp2_with fail
     go_meet
     exact ⟨by rw [HR.out, decide_eq_false (by omega)], k1⟩
    have C2 := Lib.hid (decide_eq_true (show p.later.length ≤ 65535 from by omega))
    have HR : Hid (b0 = true) := Lib.hid (by rw [HB0.out, HF.out, HS.out, C0.out, C1.out, C2.out]; rfl)
    clear HB0
    go_wp2_with fail
    go_meet
    exact ⟨by rw [HR.out], k1⟩
 case rest =>
  obtain ⟨rfl, k1⟩ := hcut
  clear y0 y1 y2 y3 y4 y5
  have HX := Lib.hid (k1.blockAt HX.out trivial)
  have HH := Lib.hid (HH.out.new k1)
  have HLa := Lib.hid (HLa.out.new k1)
  have HN := Lib.hid (HN.out.new k1)
  clear k1
  go_wp2_with fail
  go_loopw [4, 5] (fun s4 s5 wx => ∃ k : Nat, k ≤ p.path.length ∧ s5 = .int .i64 (k : Int) ∧ s4 = .bool (b0 && (p.path.take k).all fun b => b.length == 32) ∧ wx = wc) (fun _ i _ => p.path.length - (intOf i).toNat)
  case atStart => exact ⟨0, Nat.zero_le _, rfl, by rw [List.take_zero]; simp, rfl⟩
  case round =>
   obtain ⟨k, hk, rfl, rfl, rfl⟩ := hrel
   have y8 := cellOf HX.out (k := 8) rfl
   by_cases hlt : k < p.path.length
   ·have HTK : Hid ((b0 && (p.path.take (k + 1)).all fun b => b.length == 32) = ((b0 && (p.path.take k).all fun b => b.length == 32) && (p.path[k].length == 32))) := Lib.hid (by rw [List.take_add_one, List.getElem?_eq_getElem hlt, List.all_append, Bool.and_assoc]; simp)
    obtain ⟨b, off, B1, c1, rfl, hbD, u0, hc1, _, hbs⟩ := HH.out.path.at_ hlt
    have hpk := HPM.out.1
    generalize (b0 && (p.path.take k).all fun b => b.length == 32) = gk at *
    generalize p.path[k] = x at *
    clear hbs hc1 hbD
    cases gk
    ·have HTK : Hid _ := HTK
     go_wp2_with fail
     go_roundw
     case rel => exact ⟨k + 1, by omega, by go_num, by rw [HTK.out]; rfl, by first | rfl | trivial⟩
     case measure => simp [intOf]; omega
    ·by_cases h32 : x.length = 32
     ·have h32' : ((x.length : Int) == 32) = true := by rw [beq_iff_eq]; omega
      have HL := Lib.hid (show (x.length == 32) = true from by rw [beq_iff_eq]; exact h32)
      clear h32
      go_wp2_with fail
      go_roundw
      case rel => exact ⟨k + 1, by omega, by go_num, by rw [HTK.out, HL.out]; rfl, by first | rfl | trivial⟩
      case measure => simp [intOf]; omega
     ·have h32' : ((x.length : Int) == 32) = false := by rw [beq_eq_false_iff_ne]; omega
      have HL := Lib.hid (show (x.length == 32) = false from by rw [beq_eq_false_iff_ne]; exact h32)
      clear h32
      go_wp2_with fail
      go_roundw
      case rel => exact ⟨k + 1, by omega, by go_num, by rw [HTK.out, HL.out]; rfl, by first | rfl | trivial⟩
      case measure => simp [intOf]; omega
   ·obtain rfl : k = p.path.length := by omega
    rw [List.take_of_length_le (Nat.le_refl _)]
    obtain ⟨b1, hb1⟩ : ∃ b1, b1 = (b0 && (p.path.all fun b => b.length == 32)) := ⟨_, rfl⟩
    rw [← hb1]
    have HB1 := Lib.hid hb1
    clear hb1
    go_wp2_with fail
    clear y8
    generalize wr = w2 at *
    go_loopw [4, 6] (fun s4 s6 wx => ∃ k : Nat, k ≤ p.later.length ∧ s6 = .int .i64 (k : Int) ∧ s4 = .bool (b1 && (p.later.take k).all fineHead) ∧ New w2 wx) (fun _ i _ => p.later.length - (intOf i).toNat)
    case atStart => exact ⟨0, Nat.zero_le _, rfl, by rw [List.take_zero]; simp, New.refl _⟩
    case round =>
     obtain ⟨k, hk, rfl, rfl, hK⟩ := hrel
     have HK := Lib.hid hK
     clear hK
     have y9 := cellOf (HK.out.blockAt HX.out trivial) (k := 9) rfl
     by_cases hlt : k < p.later.length
     ·have HTK : Hid ((b1 && (p.later.take (k + 1)).all fineHead) = ((b1 && (p.later.take k).all fineHead) && fineHead p.later[k])) := Lib.hid (by rw [List.take_add_one, List.getElem?_eq_getElem hlt, List.all_append, Bool.and_assoc]; simp)
      obtain ⟨b, off, B1, c1, B2, c2, rfl, hbD, u0, u1, u2, u3, u4, u5, l1, l2, b1x, b2x, f0, f1⟩ := (HLa.out.new HK.out).at_ hlt
      have hpk := HPM.out.2
      generalize (b1 && (p.later.take k).all fineHead) = gk at *
      generalize p.later[k] = x at *
      have HRX := Lib.hid (rhead24_any B1 B2 c1 c2 x wr)
      clear l1 l2 b1x b2x f0 f1 hbD
      cases gk
      ·skip
       go_wp2_with fail
       go_roundw
       case rel => exact ⟨k + 1, by omega, by go_num, by rw [HTK.out]; rfl, HK.out⟩
       case measure => simp [intOf]; omega
      ·skip
       go_wp2_with fail
       refine HRX.out.mono ?_
       rintro e w3 ⟨rfl, k3⟩
       go_wp2_with fail
       go_roundw
       case rel => exact ⟨k + 1, by omega, by go_num, by rw [HTK.out]; rfl, HK.out.new k3⟩
       case measure => simp [intOf]; omega
     ·obtain rfl : k = p.later.length := by omega
      rw [List.take_of_length_le (Nat.le_refl _)]
      have HRP : Hid (rightProof p = (b1 && p.later.all fineHead)) := Lib.hid (by rw [HB1.out, HB0.out]; unfold rightProof; simp only [Bool.and_assoc])
      generalize (b1 && p.later.all fineHead) = ri at *
      have HX := Lib.hid (HK.out.blockAt HX.out trivial)
      have HH := Lib.hid (HH.out.new HK.out)
      have HLa := Lib.hid (HLa.out.new HK.out)
      have HN := Lib.hid (HN.out.new HK.out)
      clear HK HB0 HB1
      generalize wr = w3 at *
      cases ri
      ·have HE : Hid (encodeOf p = ([], 12)) := Lib.hid (by unfold encodeOf; rw [HRP.out]; rfl)
       clear HRP
       go_wp2_with fail
       refine bodyPost_ret (v := .tuple #[.slice none 0 0, .int .i64 12]) (by simp [results, Tryz.results21, go_sem]) rfl ?_
       rw [HE.out]
       exact ⟨⟨none, 0, rfl, Own.nil _ _ _ _⟩, HN.out⟩
      ·have HE : Hid (encodeOf p = (proofBytes p, 0)) := Lib.hid (by unfold encodeOf; rw [HRP.out]; rfl)
       have HSZ := Lib.hid (right_parts HRP.out)
       have HHL := Lib.hid (fine_lens HSZ.out.2.2.2.2.2)
       clear HRP
       have HN3 := Lib.hid HN.out
       have HX3 : Hid (gb < w3.heap.size) := Lib.hid (Array.getElem?_eq_some_iff.1 HX.out).1
       go_upto_region 12 with fail
       clear y9
       have z0 := fun W (hW : New w3 W) => cellOf (hW.blockAt HX.out trivial) (k := 0) rfl
       have z1 := fun W (hW : New w3 W) => cellOf (hW.blockAt HX.out trivial) (k := 1) rfl
       have z2 := fun W (hW : New w3 W) => cellOf (hW.blockAt HX.out trivial) (k := 2) rfl
       have z3 := fun W (hW : New w3 W) => cellOf (hW.blockAt HX.out trivial) (k := 3) rfl
       have z4 := fun W (hW : New w3 W) => cellOf (hW.blockAt HX.out trivial) (k := 4) rfl
       have z5 := fun W (hW : New w3 W) => cellOf (hW.blockAt HX.out trivial) (k := 5) rfl
       have z6 := fun W (hW : New w3 W) => cellOf (hW.blockAt HX.out trivial) (k := 6) rfl
       have z7 := fun W (hW : New w3 W) => cellOf (hW.blockAt HX.out trivial) (k := 7) rfl
       have z8 := fun W (hW : New w3 W) => cellOf (hW.blockAt HX.out trivial) (k := 8) rfl
       refine hold_begin (by kernel_rfl) ?_
       have n0 : New w3.drew w3.drew := New.refl _
       replace z0 := fun W (hW : New w3.drew W) => z0 W (Keep.new (Keep.drew (New.refl w3)) hW)
       replace z1 := fun W (hW : New w3.drew W) => z1 W (Keep.new (Keep.drew (New.refl w3)) hW)
       replace z2 := fun W (hW : New w3.drew W) => z2 W (Keep.new (Keep.drew (New.refl w3)) hW)
       replace z3 := fun W (hW : New w3.drew W) => z3 W (Keep.new (Keep.drew (New.refl w3)) hW)
       replace z4 := fun W (hW : New w3.drew W) => z4 W (Keep.new (Keep.drew (New.refl w3)) hW)
       replace z5 := fun W (hW : New w3.drew W) => z5 W (Keep.new (Keep.drew (New.refl w3)) hW)
       replace z6 := fun W (hW : New w3.drew W) => z6 W (Keep.new (Keep.drew (New.refl w3)) hW)
       replace z7 := fun W (hW : New w3.drew W) => z7 W (Keep.new (Keep.drew (New.refl w3)) hW)
       replace z8 := fun W (hW : New w3.drew W) => z8 W (Keep.new (Keep.drew (New.refl w3)) hW)
       refine take0 0 n0 ?_
       refine take0 1 n0 ?_
       refine take0 3 n0 ?_
       refine take0 4 n0 ?_
       refine take0 6 n0 ?_
       refine take0 7 n0 ?_
       refine take0 9 n0 ?_
       refine take0 10 n0 ?_
       refine take0 11 n0 ?_
       refine hold_step0 (i := 2) (by kernel_rfl) rfl rfl (fun K hK => ?_)
       go_simp
       refine (headb24_any (fun _ => True) _ none P1 R1 0 0 p1 r1 p.head [] w3.drew (Row.nil _ _ _ _) HH.out.prev.drew HH.out.root.drew HH.out.f0 HH.out.f1 (by have := HHL.out; omega)).mono ?_
       rintro e w4 ⟨⟨A4, c4, rfl, o4⟩, k4⟩; rw [List.nil_append] at o4 ⊢; generalize hq4 : headBytes p.head = q4 at *
       go_wp2_with fail
       have n1 := Keep.new n0 k4
       refine hK.out _ _ n1 ?_
       clear hK K
       try simp only [Act.put, ly1, ly2, ly3, ly4, ly5, ly6]
       replace n0 := n1
       clear n1
       refine hold_step0 (i := 5) (by kernel_rfl) rfl rfl (fun K hK => ?_)
       go_simp
       refine (short4_any _ A4 _ c4 q4 p.place w4 (Row.of_own o4) (by rw [← hq4, headBytes_length]; have := HHL.out; omega)).mono ?_
       rintro e w5 ⟨⟨A5, c5, rfl, o5⟩, k5⟩; generalize hq5 : q4 ++ beI 2 p.place = q5 at *
       go_wp2_with fail
       have n1 := Keep.new n0 k5
       refine hK.out _ _ n1 ?_
       clear hK K
       try simp only [Act.put, ly1, ly2, ly3, ly4, ly5, ly6]
       replace n0 := n1
       clear n1
       refine hold_step0 (i := 8) (by kernel_rfl) rfl rfl (fun K hK => ?_)
       go_simp
       refine (bytes4_any _ _ A5 L _ c5 p.leaf.length lc q5 p.leaf w5 (Row.of_own o5) (HH.out.leaf.drew.new n0) (by rw [← hq5, ← hq4, List.length_append, beI_length, headBytes_length]; have := HHL.out; omega) (Nat.le_trans HH.out.hl HH.out.hlm) HH.out.hl).mono ?_
       rintro e w6 ⟨⟨A6, c6, rfl, o6⟩, k6⟩; generalize hq6 : q5 ++ lenBytes p.leaf = q6 at *
       go_wp2_with fail
       have n1 := Keep.new n0 k6
       refine hK.out _ _ n1 ?_
       clear hK K
       try simp only [Act.put, ly1, ly2, ly3, ly4, ly5, ly6]
       replace n0 := n1
       clear n1
       have hlb : (lenBytes p.leaf).length ≤ 65537 := by unfold lenBytes; rw [List.length_append, beI_length, List.length_take]; omega
       refine hold_step0 (i := 12) (by kernel_rfl) rfl rfl (fun K hK => ?_)
       go_simp
       refine (byte4_any _ A6 _ c6 q6 (p.path.length : Nat) w6 (Row.of_own o6) (by rw [← hq6, ← hq5, ← hq4, List.length_append, List.length_append, beI_length, headBytes_length]; have := HHL.out; omega)).mono ?_
       rintro e w7 ⟨⟨A7, c7, rfl, o7⟩, k7⟩; generalize hq7 : q6 ++ beI 1 (p.path.length : Nat) = q7 at *
       go_wp2_with fail
       have n1 := Keep.new n0 k7
       refine hK.out _ _ n1 ?_
       clear hK K
       try simp only [Act.put, ly1, ly2, ly3, ly4, ly5, ly6]
       replace n0 := n1
       clear n1
       refine take0 13 n0 ?_
       refine wpAnyH_done (by kernel_rfl) ?_ _
       clear z0 z1 z2 z3 z4 z5 z6 z7 z8
       have HQ7 : Hid (q7 = headBytes p.head ++ beI 2 p.place ++ lenBytes p.leaf ++ beI 1 (p.path.length : Nat) ∧ q7.length ≤ 70001) := Lib.hid ⟨by rw [← hq7, ← hq6, ← hq5, ← hq4], by rw [← hq7, ← hq6, ← hq5, ← hq4]; simp only [List.length_append, beI_length, headBytes_length]; have := HHL.out; omega⟩
       have hs6 : w3.heap.size ≤ w6.heap.size := Nat.le_trans (Nat.le_trans (show w3.heap.size ≤ w4.heap.size from k4.size) k5.size) k6.size
       have hO7 := own_base (base := w3.heap.size) o7 hs6
       have k7d := (Keep.drew (New.refl w3)).new n0
       have HX := Lib.hid (k7d.blockAt HX.out trivial)
       have HH := Lib.hid (HH.out.new k7d)
       have HLa := Lib.hid (HLa.out.new k7d)
       have HN := Lib.hid (HN.out.new k7d)
       have hg3 : w.heap.size ≤ w3.heap.size ∧ gb < w3.heap.size ∧ w3.heap.size ≤ w7.heap.size := ⟨HN3.out.size, HX3.out, k7d.size⟩
       clear k4 k5 k6 k7 o4 o5 o6 o7 hq4 hq5 hq6 hq7 n0 k7d hs6
       generalize w3.heap.size = gz at *
       have HO7 := Lib.hid hO7
       have HG3 := Lib.hid hg3
       clear hO7 hg3 HN3 HX3 hlb
       have HD : Hid (∀ b, b < gb → b < gz) := Lib.hid fun b hb => by have := HG3.out.2.1; omega
       go_wp2_with fail
       go_loopw [7, 8] (fun s7 s8 wx => ∃ (k : Nat) (A : Option Addr) (c : Nat) (bs : List UInt8), k ≤ p.path.length ∧ s8 = .int .i64 (k : Int) ∧ s7 = .slice A bs.length c ∧ OwnB wx gz 5 A bs.length c bs ∧ bs = q7 ++ (p.path.take k).flatten ∧ Keep (fun b => b < gz) w7 wx) (fun _ i _ => p.path.length - (intOf i).toNat)
       case atStart => exact ⟨0, A7, c7, q7, Nat.zero_le _, rfl, rfl, HO7.out, by rw [List.take_zero, List.flatten_nil, List.append_nil], Keep.refl _ _⟩
       case round =>
        obtain ⟨k, A, c, bs, hk, rfl, rfl, hO, hbs, hK⟩ := hrel
        have HBS := Lib.hid hbs
        have HK := Lib.hid hK
        clear hbs hK
        have y8 := cellOf (HK.out.blockAt HX.out HG3.out.2.1) (k := 8) rfl
        by_cases hlt : k < p.path.length
        ·have HTK : Hid ((p.path.take (k + 1)).flatten = (p.path.take k).flatten ++ p.path[k]) := Lib.hid (by rw [List.take_add_one, List.getElem?_eq_getElem hlt, List.flatten_append]; simp)
         have hl32 : p.path[k].length = 32 := by have h := List.all_eq_true.1 HSZ.out.2.2.2.1 p.path[k] (List.getElem_mem hlt); simpa using h
         have hfl : (p.path.take k).flatten.length = 32 * k := flat_len _ k (by omega) HSZ.out.2.2.2.1
         have hbl : bs.length ≤ 79001 := by rw [HBS.out, List.length_append, hfl]; have := HQ7.out.2; have := HSZ.out.2.1; omega
         obtain ⟨b, off, B1, c1, rfl, hbD, u0, hc1, _, hxs⟩ := (HH.out.path.keep HK.out (fun b _ hb => HD.out b hb)).at_ hlt
         generalize p.path[k] = x at *
         have hbd : bs.length + x.length ≤ 140737488355328 := by omega
         have hk255 : k ≤ 255 := by have := HSZ.out.2.1; omega
         have hsz : gz ≤ wr.heap.size := Nat.le_trans HG3.out.2.2 HK.out.size
         clear hfl hc1 hl32
         go_wp2_with (at_builtin; refine app_bytes _ rfl _ _ rfl gz A bs.length c bs rfl hO _ B1 x.length c1 x rfl hxs hbd hsz ?_; intro A3 c3 w4 o4 g4 q4)
         have hKg : Keep (fun b => b < gz) wr w4 := (Keep.refl _ wr).grown g4 (fun j hj hd => absurd hd (by have := (own_lt hO j hj).1; omega))
         go_roundw
         case rel => exact ⟨k + 1, A3, c3, bs ++ x, by omega, by go_num, by rw [List.length_append], by rw [List.length_append]; exact o4, by rw [HTK.out, HBS.out, List.append_assoc], HK.out.trans hKg⟩
         case measure => simp [intOf]; omega
        ·obtain rfl : k = p.path.length := by omega
         have hfl : (p.path.take p.path.length).flatten.length = 32 * p.path.length := flat_len _ _ (Nat.le_refl _) HSZ.out.2.2.2.1
         have hb3 := HBS.out
         rw [List.take_of_length_le (Nat.le_refl _)] at hb3 hfl
         have HB3 : Hid (bs = headBytes p.head ++ beI 2 p.place ++ lenBytes p.leaf ++ beI 1 (p.path.length : Nat) ++ p.path.flatten ∧ bs.length ≤ 90000) := Lib.hid ⟨by rw [hb3, HQ7.out.1], by rw [hb3, List.length_append, hfl]; have := HQ7.out.2; have := HSZ.out.2.1; omega⟩
         have HO := Lib.hid hO
         clear hb3 hfl HBS HO7 HQ7 hO
         have kW := HK.out
         have HX := Lib.hid (kW.blockAt HX.out HG3.out.2.1)
         have HH := Lib.hid (HH.out.keep kW (fun b _ hb => HD.out b hb))
         have HLa := Lib.hid (HLa.out.keep kW (fun b _ hb => HD.out b hb))
         have HNR : Hid (New w wr) := Lib.hid ((Keep.trans2 (Keep.of_new (D := fun b => b < w.heap.size) HN.out) kW (fun b hb hd => by have := HG3.out.1; omega)).toNew fun b hb => hb)
         have hsr : gz ≤ wr.heap.size := Nat.le_trans HG3.out.2.2 kW.size
         have HSR := Lib.hid hsr
         clear kW HK hsr HN
         have y9 := cellOf HX.out (k := 9) rfl
         go_wp2_with fail
         refine (short4_any _ A _ c bs (p.later.length : Nat) wr (Row.of_own HO.out) (by have := HB3.out.2; omega)).mono ?_
         rintro e w8 ⟨⟨A8, c8, rfl, o8⟩, k8⟩
         generalize hb4 : bs ++ beI 2 ((p.later.length : Nat) : Int) = b4 at *
         have HB4 : Hid (b4 = headBytes p.head ++ beI 2 p.place ++ lenBytes p.leaf ++ beI 1 (p.path.length : Nat) ++ p.path.flatten ++ beI 2 (p.later.length : Nat) ∧ b4.length ≤ 90002) := Lib.hid ⟨by rw [← hb4, HB3.out.1], by rw [← hb4, List.length_append, beI_length]; have := HB3.out.2; omega⟩
         have HO8 := Lib.hid (own_base (base := gz) o8 HSR.out)
         have HX := Lib.hid (k8.blockAt HX.out trivial)
         have HH := Lib.hid (HH.out.new k8)
         have HLa := Lib.hid (HLa.out.new k8)
         have HNR := Lib.hid (HNR.out.new k8)
         have HSR : Hid (gz ≤ w8.heap.size) := Lib.hid (Nat.le_trans HSR.out k8.size)
         clear hb4 o8 k8 y9 HO HB3
         go_wp2_with fail
         go_loopw [7, 9] (fun s7 s9 wx => ∃ (k : Nat) (A : Option Addr) (c : Nat) (bs : List UInt8), k ≤ p.later.length ∧ s9 = .int .i64 (k : Int) ∧ s7 = .slice A bs.length c ∧ OwnB wx gz 5 A bs.length c bs ∧ bs = b4 ++ ((p.later.take k).map headBytes).flatten ∧ New w8 wx) (fun _ i _ => p.later.length - (intOf i).toNat)
         case atStart => exact ⟨0, A8, c8, b4, Nat.zero_le _, rfl, rfl, HO8.out, by rw [List.take_zero, List.map_nil, List.flatten_nil, List.append_nil], New.refl _⟩
         case round =>
          obtain ⟨k, A5, c5, bs5, hk, rfl, rfl, hO, hbs, hK⟩ := hrel
          have HBS := Lib.hid hbs
          have HK := Lib.hid hK
          clear hbs hK
          have y9 := cellOf (HK.out.blockAt HX.out trivial) (k := 9) rfl
          by_cases hlt : k < p.later.length
          ·have HTK : Hid (((p.later.take (k + 1)).map headBytes).flatten = ((p.later.take k).map headBytes).flatten ++ headBytes p.later[k]) := Lib.hid (by rw [List.take_add_one, List.getElem?_eq_getElem hlt, List.map_append, List.flatten_append]; simp)
           have hfx : fineHead p.later[k] = true := List.all_eq_true.1 HSZ.out.2.2.2.2.1 p.later[k] (List.getElem_mem hlt)
           have hfl : ((p.later.take k).map headBytes).flatten.length = 78 * k := heads_len _ k (by omega) HSZ.out.2.2.2.2.1
           have hbl : bs5.length ≤ 6000000 := by rw [HBS.out, List.length_append, hfl]; have := HB4.out.2; have := HSZ.out.2.2.1; omega
           obtain ⟨b, off, B1, c1, B2, c2, rfl, hbD, u0, u1, u2, u3, u4, u5, l1, l2, b1x, b2x, f0, f1⟩ := (HLa.out.new HK.out).at_ hlt
           generalize p.later[k] = x at *
           have hk6 : k ≤ 65535 := by have := HSZ.out.2.2.1; omega
           have HHB := Lib.hid (headb24_any _ _ A5 B1 B2 bs5.length c5 c1 c2 x bs5 wr (Row.of_own hO) b1x b2x f0 f1 (by have := fine_lens hfx; omega))
           have hsz : gz ≤ wr.heap.size := Nat.le_trans HSR.out HK.out.size
           clear hfx hfl b1x b2x l1 l2 f0 f1 hO
           go_wp2_with fail
           refine HHB.out.mono ?_
           rintro e w9 ⟨⟨A6, c6, rfl, o6⟩, k9⟩
           go_wp2_with fail
           go_roundw
           case rel => exact ⟨k + 1, A6, c6, _, by omega, by go_num, by simp only [List.length_append], own_base o6 hsz, by rw [HTK.out, HBS.out, List.append_assoc], HK.out.new k9⟩
           case measure => simp [intOf]; omega
          ·obtain rfl : k = p.later.length := by omega
           have hb5 := HBS.out
           rw [List.take_of_length_le (Nat.le_refl _)] at hb5
           have HPB : Hid (proofBytes p = bs5) := Lib.hid (by rw [hb5, HB4.out.1]; rfl)
           clear hb5 HBS
           go_wp2_with fail
           refine bodyPost_ret (v := .tuple #[.slice A5 bs5.length c5, .int .i64 0]) (by simp [results, Tryz.results21, go_sem]) rfl ?_
           rw [HE.out, HPB.out]
           exact ⟨⟨A5, c5, rfl, own_base hO (by rw [← hgb] at *; exact HG3.out.1)⟩, HNR.out.new HK.out⟩
end Go.Proofs.YtfegdgaanmcecaaGreatDoor
