/-
  PROVED HERE: what log.Open answers where an argument is not right: one theorem for each of its refusals; conditions: nothing on the disk is unsafe.
-/
import Derived.Test.YtajnkbfcnmajoaaGreatDoorPkB00
import Derived.Test.YtajnkbfcnmajoaaGreatDoorPkB34
namespace Go.Proofs.YtajnkbfcnmajoaaGreatDoor
open Go.RowKit
set_option maxRecDepth 100000 in
set_option maxHeartbeats 1000000 in
theorem lopen_nil {w : World} (s p g fr next : Int) (_hs : -9223372036854775808 ≤ s ∧ s ≤ 9223372036854775807) (I Hd : Option Addr) (ni ci nh hc : Nat)  :
  Calls Tryz.prog 13 #[.pointer none, .agg #[.int .i64 s, .int .i64 p, .int .i64 g], .slice I ni ci, .int .i64 fr, .slice Hd nh hc, .int .u64 next] w fun e w' => e = .returned (.tuple #[.pointer none, .slice none 0 0, .int .i64 1]) ∧ New w w' := by
 have k1 : New w (w.alloc (.cells #[.int .i64 s, .int .i64 p, .int .i64 g] 31)) := (New.refl w).alloc _
 have x1 := heap_alloc_new w (.cells #[.int .i64 s, .int .i64 p, .int .i64 g] 31)
 generalize hw1 : w.alloc (.cells #[.int .i64 s, .int .i64 p, .int .i64 g] 31) = w1 at *
 have y0 : ∀ W, New w1 W → W.cell? ⟨w.heap.size, 0, none⟩ = some (.int .i64 s) := fun W hW => cellOf (k := 0) (hW.blockAt x1 trivial) rfl
 have y1 : ∀ W, New w1 W → W.cell? ⟨w.heap.size, 1, none⟩ = some (.int .i64 p) := fun W hW => cellOf (k := 1) (hW.blockAt x1 trivial) rfl
 have y2 : ∀ W, New w1 W → W.cell? ⟨w.heap.size, 2, none⟩ = some (.int .i64 g) := fun W hW => cellOf (k := 2) (hW.blockAt x1 trivial) rfl
 have HK := Lib.hid k1
 clear x1 k1
 go_enter Tryz.func13, Tryz.ntmps13
 go_upto_region 1 with fail
 clear hw1
 refine hold_begin (by kernel_rfl) ?_
 have n0 : New w1 w1.drew := (New.refl w1).drew
 replace y0 := fun W (hW : New w1.drew W) => y0 W (Keep.new n0 hW)
 replace y1 := fun W (hW : New w1.drew W) => y1 W (Keep.new n0 hW)
 replace y2 := fun W (hW : New w1.drew W) => y2 W (Keep.new n0 hW)
 refine take1 0 ?_
 refine take1 1 ?_
 refine take1 2 ?_
 refine skip1 3 ?_
 refine skip1 4 ?_
 refine skip1 5 ?_
 refine take1 6 ?_
 refine take1 7 ?_
 refine skip1 8 ?_
 refine skip1 9 ?_
 refine skip1 10 ?_
 refine skip1 11 ?_
 refine skip1 12 ?_
 refine take1 13 ?_
 refine take1 14 ?_
 refine skip1 15 ?_
 refine skip1 16 ?_
 refine take1 17 ?_
 refine take1 18 ?_
 refine skip1 19 ?_
 refine skip1 20 ?_
 refine skip1 21 ?_
 refine skip1 22 ?_
 refine take1 23 ?_
 refine take1 24 ?_
 refine skip1 25 ?_
 refine skip1 26 ?_
 refine skip1 27 ?_
 refine take1 28 ?_
 refine take1 29 ?_
 refine skip1 30 ?_
 refine skip1 31 ?_
 refine take1 32 ?_
 refine take1 33 ?_
 refine skip1 34 ?_
 refine skip1 35 ?_
 refine take1 36 ?_
 refine wpAnyH_done (by kernel_rfl) ?_ _
 go_wp2_with fail
 refine bodyPost_ret (v := .tuple #[.pointer none, .slice none 0 0, .int .i64 1]) (by simp [results, Tryz.results13, go_sem]) rfl ?_
 exact ⟨rfl, HK.out.new n0⟩
set_option maxRecDepth 100000 in
set_option maxHeartbeats 1000000 in
theorem lopen_plan {w : World} (s p g fr next : Int) (hs : -9223372036854775808 ≤ s ∧ s ≤ 9223372036854775807) (I Hd : Option Addr) (ni ci nh hc : Nat) (hr : planRight s p g = false) {q : DiskB} :
  Calls Tryz.prog 13 #[.pointer (some ⟨q.bd, 0, none⟩), .agg #[.int .i64 s, .int .i64 p, .int .i64 g], .slice I ni ci, .int .i64 fr, .slice Hd nh hc, .int .u64 next] w fun e w' => e = .returned (.tuple #[.pointer none, .slice none 0 0, .int .i64 1]) ∧ New w w' := by
 have k1 : New w (w.alloc (.cells #[.int .i64 s, .int .i64 p, .int .i64 g] 31)) := (New.refl w).alloc _
 have x1 := heap_alloc_new w (.cells #[.int .i64 s, .int .i64 p, .int .i64 g] 31)
 have HRT := fun W => Lib.hid (right21_any s p g hs W)
 rw [hr] at HRT
 generalize hw1 : w.alloc (.cells #[.int .i64 s, .int .i64 p, .int .i64 g] 31) = w1 at *
 have y0 : ∀ W, New w1 W → W.cell? ⟨w.heap.size, 0, none⟩ = some (.int .i64 s) := fun W hW => cellOf (k := 0) (hW.blockAt x1 trivial) rfl
 have y1 : ∀ W, New w1 W → W.cell? ⟨w.heap.size, 1, none⟩ = some (.int .i64 p) := fun W hW => cellOf (k := 1) (hW.blockAt x1 trivial) rfl
 have y2 : ∀ W, New w1 W → W.cell? ⟨w.heap.size, 2, none⟩ = some (.int .i64 g) := fun W hW => cellOf (k := 2) (hW.blockAt x1 trivial) rfl
 have HK := Lib.hid k1
 clear x1 k1
 go_enter Tryz.func13, Tryz.ntmps13
 go_upto_region 1 with fail
 clear hw1
 refine hold_begin (by kernel_rfl) ?_
 have n0 : New w1 w1.drew := (New.refl w1).drew
 replace y0 := fun W (hW : New w1.drew W) => y0 W (Keep.new n0 hW)
 replace y1 := fun W (hW : New w1.drew W) => y1 W (Keep.new n0 hW)
 replace y2 := fun W (hW : New w1.drew W) => y2 W (Keep.new n0 hW)
 refine take1 0 ?_
 refine take1 1 ?_
 refine take1 2 ?_
 refine take1 3 ?_
 refine hold_step (i := 4) (by kernel_rfl) rfl rfl (fun K hK => ?_)
 go_simp
 refine (HRT _).out.mono ?_
 rintro e w2 ⟨rfl, k2⟩
 go_wp2_with fail
 refine hK.out _ _ k2 ?_
 clear hK K
 try simp only [Act.put, ly1, ly2, ly3, ly4, ly5, ly6]
 replace n0 := Keep.new n0 k2
 replace y0 := fun W (hW : New w2 W) => y0 W (Keep.new k2 hW)
 replace y1 := fun W (hW : New w2 W) => y1 W (Keep.new k2 hW)
 replace y2 := fun W (hW : New w2 W) => y2 W (Keep.new k2 hW)
 refine take1 5 ?_
 refine take1 6 ?_
 refine take1 7 ?_
 refine skip1 8 ?_
 refine skip1 9 ?_
 refine skip1 10 ?_
 refine skip1 11 ?_
 refine skip1 12 ?_
 refine take1 13 ?_
 refine take1 14 ?_
 refine skip1 15 ?_
 refine skip1 16 ?_
 refine take1 17 ?_
 refine take1 18 ?_
 refine skip1 19 ?_
 refine skip1 20 ?_
 refine skip1 21 ?_
 refine skip1 22 ?_
 refine take1 23 ?_
 refine take1 24 ?_
 refine skip1 25 ?_
 refine skip1 26 ?_
 refine skip1 27 ?_
 refine take1 28 ?_
 refine take1 29 ?_
 refine skip1 30 ?_
 refine skip1 31 ?_
 refine take1 32 ?_
 refine take1 33 ?_
 refine skip1 34 ?_
 refine skip1 35 ?_
 refine take1 36 ?_
 refine wpAnyH_done (by kernel_rfl) ?_ _
 go_wp2_with fail
 refine bodyPost_ret (v := .tuple #[.pointer none, .slice none 0 0, .int .i64 1]) (by simp [results, Tryz.results13, go_sem]) rfl ?_
 exact ⟨rfl, HK.out.new n0⟩
set_option maxRecDepth 100000 in
set_option maxHeartbeats 1000000 in
theorem lopen_sectors {w : World} (s p g fr next : Int) (hs : -9223372036854775808 ≤ s ∧ s ≤ 9223372036854775807) (I Hd : Option Addr) (ni ci nh hc : Nat) (hr : planRight s p g = true) {q : DiskB} {S : List UInt8} {k : Nat} (hC : Clean w q S) (hk : S.length = k * 128) (h2 : s ≠ (k : Int)) :
  Calls Tryz.prog 13 #[.pointer (some ⟨q.bd, 0, none⟩), .agg #[.int .i64 s, .int .i64 p, .int .i64 g], .slice I ni ci, .int .i64 fr, .slice Hd nh hc, .int .u64 next] w fun e w' => e = .returned (.tuple #[.pointer none, .slice none 0 0, .int .i64 1]) ∧ New w w' := by
 have k1 : New w (w.alloc (.cells #[.int .i64 s, .int .i64 p, .int .i64 g] 31)) := (New.refl w).alloc _
 have x1 := heap_alloc_new w (.cells #[.int .i64 s, .int .i64 p, .int .i64 g] 31)
 have HRT := fun W => Lib.hid (right21_any s p g hs W)
 rw [hr] at HRT
 have HSC := fun W (hW : New w W) => Lib.hid (by (obtain ⟨wr0, hd⟩ := hC.new hW); exact sectors_any hd hk)
 have e2 : (s != (k : Int)) = true := by simpa using h2
 clear hC hk
 replace h2 := Lib.hid h2
 generalize hw1 : w.alloc (.cells #[.int .i64 s, .int .i64 p, .int .i64 g] 31) = w1 at *
 have y0 : ∀ W, New w1 W → W.cell? ⟨w.heap.size, 0, none⟩ = some (.int .i64 s) := fun W hW => cellOf (k := 0) (hW.blockAt x1 trivial) rfl
 have y1 : ∀ W, New w1 W → W.cell? ⟨w.heap.size, 1, none⟩ = some (.int .i64 p) := fun W hW => cellOf (k := 1) (hW.blockAt x1 trivial) rfl
 have y2 : ∀ W, New w1 W → W.cell? ⟨w.heap.size, 2, none⟩ = some (.int .i64 g) := fun W hW => cellOf (k := 2) (hW.blockAt x1 trivial) rfl
 have HK := Lib.hid k1
 clear x1 k1
 go_enter Tryz.func13, Tryz.ntmps13
 go_upto_region 1 with fail
 clear hw1
 refine hold_begin (by kernel_rfl) ?_
 have n0 : New w1 w1.drew := (New.refl w1).drew
 replace y0 := fun W (hW : New w1.drew W) => y0 W (Keep.new n0 hW)
 replace y1 := fun W (hW : New w1.drew W) => y1 W (Keep.new n0 hW)
 replace y2 := fun W (hW : New w1.drew W) => y2 W (Keep.new n0 hW)
 refine take1 0 ?_
 refine take1 1 ?_
 refine take1 2 ?_
 refine take1 3 ?_
 refine hold_step (i := 4) (by kernel_rfl) rfl rfl (fun K hK => ?_)
 go_simp
 refine (HRT _).out.mono ?_
 rintro e w2 ⟨rfl, k2⟩
 go_wp2_with fail
 refine hK.out _ _ k2 ?_
 clear hK K
 try simp only [Act.put, ly1, ly2, ly3, ly4, ly5, ly6]
 replace n0 := Keep.new n0 k2
 replace y0 := fun W (hW : New w2 W) => y0 W (Keep.new k2 hW)
 replace y1 := fun W (hW : New w2 W) => y1 W (Keep.new k2 hW)
 replace y2 := fun W (hW : New w2 W) => y2 W (Keep.new k2 hW)
 refine take1 5 ?_
 refine take1 6 ?_
 refine take1 7 ?_
 refine take1 8 ?_
 refine take1 9 ?_
 refine take1 10 ?_
 refine hold_step (i := 11) (by kernel_rfl) rfl rfl (fun K hK => ?_)
 go_simp
 refine (HSC _ (HK.out.new n0)).out.mono ?_
 rintro e w3 ⟨rfl, k3⟩; have k3 := New.of_eq k3
 go_wp2_with fail
 refine hK.out _ _ k3 ?_
 clear hK K
 try simp only [Act.put, ly1, ly2, ly3, ly4, ly5, ly6]
 replace n0 := Keep.new n0 k3
 replace y0 := fun W (hW : New w3 W) => y0 W (Keep.new k3 hW)
 replace y1 := fun W (hW : New w3 W) => y1 W (Keep.new k3 hW)
 replace y2 := fun W (hW : New w3 W) => y2 W (Keep.new k3 hW)
 refine take1 12 ?_
 refine take1 13 ?_
 refine take1 14 ?_
 refine skip1 15 ?_
 refine skip1 16 ?_
 refine take1 17 ?_
 refine take1 18 ?_
 refine skip1 19 ?_
 refine skip1 20 ?_
 refine skip1 21 ?_
 refine skip1 22 ?_
 refine take1 23 ?_
 refine take1 24 ?_
 refine skip1 25 ?_
 refine skip1 26 ?_
 refine skip1 27 ?_
 refine take1 28 ?_
 refine take1 29 ?_
 refine skip1 30 ?_
 refine skip1 31 ?_
 refine take1 32 ?_
 refine take1 33 ?_
 refine skip1 34 ?_
 refine skip1 35 ?_
 refine take1 36 ?_
 refine wpAnyH_done (by kernel_rfl) ?_ _
 go_wp2_with fail
 refine bodyPost_ret (v := .tuple #[.pointer none, .slice none 0 0, .int .i64 1]) (by simp [results, Tryz.results13, go_sem]) rfl ?_
 exact ⟨rfl, HK.out.new n0⟩
set_option maxRecDepth 100000 in
set_option maxHeartbeats 1000000 in
theorem lopen_below {w : World} (s p g fr next : Int) (hs : -9223372036854775808 ≤ s ∧ s ≤ 9223372036854775807) (I Hd : Option Addr) (ni ci nh hc : Nat) (hr : planRight s p g = true) {q : DiskB} {S : List UInt8} {k : Nat} (hC : Clean w q S) (hk : S.length = k * 128) (h2 : s = (k : Int)) (h3 : fr < 0) :
  Calls Tryz.prog 13 #[.pointer (some ⟨q.bd, 0, none⟩), .agg #[.int .i64 s, .int .i64 p, .int .i64 g], .slice I ni ci, .int .i64 fr, .slice Hd nh hc, .int .u64 next] w fun e w' => e = .returned (.tuple #[.pointer none, .slice none 0 0, .int .i64 1]) ∧ New w w' := by
 have k1 : New w (w.alloc (.cells #[.int .i64 s, .int .i64 p, .int .i64 g] 31)) := (New.refl w).alloc _
 have x1 := heap_alloc_new w (.cells #[.int .i64 s, .int .i64 p, .int .i64 g] 31)
 have HRT := fun W => Lib.hid (right21_any s p g hs W)
 rw [hr] at HRT
 have HSC := fun W (hW : New w W) => Lib.hid (by (obtain ⟨wr0, hd⟩ := hC.new hW); exact sectors_any hd hk)
 have e2 : (s != (k : Int)) = false := by simp [h2]
 have e3 : decide (fr < 0) = true := decide_eq_true h3
 clear hC hk
 replace h2 := Lib.hid h2
 replace h3 := Lib.hid h3
 generalize hw1 : w.alloc (.cells #[.int .i64 s, .int .i64 p, .int .i64 g] 31) = w1 at *
 have y0 : ∀ W, New w1 W → W.cell? ⟨w.heap.size, 0, none⟩ = some (.int .i64 s) := fun W hW => cellOf (k := 0) (hW.blockAt x1 trivial) rfl
 have y1 : ∀ W, New w1 W → W.cell? ⟨w.heap.size, 1, none⟩ = some (.int .i64 p) := fun W hW => cellOf (k := 1) (hW.blockAt x1 trivial) rfl
 have y2 : ∀ W, New w1 W → W.cell? ⟨w.heap.size, 2, none⟩ = some (.int .i64 g) := fun W hW => cellOf (k := 2) (hW.blockAt x1 trivial) rfl
 have HK := Lib.hid k1
 clear x1 k1
 go_enter Tryz.func13, Tryz.ntmps13
 go_upto_region 1 with fail
 clear hw1
 refine hold_begin (by kernel_rfl) ?_
 have n0 : New w1 w1.drew := (New.refl w1).drew
 replace y0 := fun W (hW : New w1.drew W) => y0 W (Keep.new n0 hW)
 replace y1 := fun W (hW : New w1.drew W) => y1 W (Keep.new n0 hW)
 replace y2 := fun W (hW : New w1.drew W) => y2 W (Keep.new n0 hW)
 refine take1 0 ?_
 refine take1 1 ?_
 refine take1 2 ?_
 refine take1 3 ?_
 refine hold_step (i := 4) (by kernel_rfl) rfl rfl (fun K hK => ?_)
 go_simp
 refine (HRT _).out.mono ?_
 rintro e w2 ⟨rfl, k2⟩
 go_wp2_with fail
 refine hK.out _ _ k2 ?_
 clear hK K
 try simp only [Act.put, ly1, ly2, ly3, ly4, ly5, ly6]
 replace n0 := Keep.new n0 k2
 replace y0 := fun W (hW : New w2 W) => y0 W (Keep.new k2 hW)
 replace y1 := fun W (hW : New w2 W) => y1 W (Keep.new k2 hW)
 replace y2 := fun W (hW : New w2 W) => y2 W (Keep.new k2 hW)
 refine take1 5 ?_
 refine take1 6 ?_
 refine take1 7 ?_
 refine take1 8 ?_
 refine take1 9 ?_
 refine take1 10 ?_
 refine hold_step (i := 11) (by kernel_rfl) rfl rfl (fun K hK => ?_)
 go_simp
 refine (HSC _ (HK.out.new n0)).out.mono ?_
 rintro e w3 ⟨rfl, k3⟩; have k3 := New.of_eq k3
 go_wp2_with fail
 refine hK.out _ _ k3 ?_
 clear hK K
 try simp only [Act.put, ly1, ly2, ly3, ly4, ly5, ly6]
 replace n0 := Keep.new n0 k3
 replace y0 := fun W (hW : New w3 W) => y0 W (Keep.new k3 hW)
 replace y1 := fun W (hW : New w3 W) => y1 W (Keep.new k3 hW)
 replace y2 := fun W (hW : New w3 W) => y2 W (Keep.new k3 hW)
 refine take1 12 ?_
 refine take1 13 ?_
 refine take1 14 ?_
 refine take1 15 ?_
 refine take1 16 ?_
 refine take1 17 ?_
 refine take1 18 ?_
 refine skip1 19 ?_
 refine skip1 20 ?_
 refine skip1 21 ?_
 refine skip1 22 ?_
 refine take1 23 ?_
 refine take1 24 ?_
 refine skip1 25 ?_
 refine skip1 26 ?_
 refine skip1 27 ?_
 refine take1 28 ?_
 refine take1 29 ?_
 refine skip1 30 ?_
 refine skip1 31 ?_
 refine take1 32 ?_
 refine take1 33 ?_
 refine skip1 34 ?_
 refine skip1 35 ?_
 refine take1 36 ?_
 refine wpAnyH_done (by kernel_rfl) ?_ _
 go_wp2_with fail
 refine bodyPost_ret (v := .tuple #[.pointer none, .slice none 0 0, .int .i64 1]) (by simp [results, Tryz.results13, go_sem]) rfl ?_
 exact ⟨rfl, HK.out.new n0⟩
set_option maxRecDepth 100000 in
set_option maxHeartbeats 1000000 in
theorem lopen_above {w : World} (s p g fr next : Int) (hs : -9223372036854775808 ≤ s ∧ s ≤ 9223372036854775807) (I Hd : Option Addr) (ni ci nh hc : Nat) (hr : planRight s p g = true) {q : DiskB} {S : List UInt8} {k : Nat} (hC : Clean w q S) (hk : S.length = k * 128) (h2 : s = (k : Int)) (h3 : 0 ≤ fr) (h4 : g < fr) :
  Calls Tryz.prog 13 #[.pointer (some ⟨q.bd, 0, none⟩), .agg #[.int .i64 s, .int .i64 p, .int .i64 g], .slice I ni ci, .int .i64 fr, .slice Hd nh hc, .int .u64 next] w fun e w' => e = .returned (.tuple #[.pointer none, .slice none 0 0, .int .i64 1]) ∧ New w w' := by
 have k1 : New w (w.alloc (.cells #[.int .i64 s, .int .i64 p, .int .i64 g] 31)) := (New.refl w).alloc _
 have x1 := heap_alloc_new w (.cells #[.int .i64 s, .int .i64 p, .int .i64 g] 31)
 have HRT := fun W => Lib.hid (right21_any s p g hs W)
 rw [hr] at HRT
 have HSC := fun W (hW : New w W) => Lib.hid (by (obtain ⟨wr0, hd⟩ := hC.new hW); exact sectors_any hd hk)
 have e2 : (s != (k : Int)) = false := by simp [h2]
 have e3 : decide (fr < 0) = false := decide_eq_false (by omega)
 have e4 : decide (g < fr) = true := decide_eq_true h4
 clear hC hk
 replace h2 := Lib.hid h2
 replace h3 := Lib.hid h3
 replace h4 := Lib.hid h4
 generalize hw1 : w.alloc (.cells #[.int .i64 s, .int .i64 p, .int .i64 g] 31) = w1 at *
 have y0 : ∀ W, New w1 W → W.cell? ⟨w.heap.size, 0, none⟩ = some (.int .i64 s) := fun W hW => cellOf (k := 0) (hW.blockAt x1 trivial) rfl
 have y1 : ∀ W, New w1 W → W.cell? ⟨w.heap.size, 1, none⟩ = some (.int .i64 p) := fun W hW => cellOf (k := 1) (hW.blockAt x1 trivial) rfl
 have y2 : ∀ W, New w1 W → W.cell? ⟨w.heap.size, 2, none⟩ = some (.int .i64 g) := fun W hW => cellOf (k := 2) (hW.blockAt x1 trivial) rfl
 have HK := Lib.hid k1
 clear x1 k1
 go_enter Tryz.func13, Tryz.ntmps13
 go_upto_region 1 with fail
 clear hw1
 refine hold_begin (by kernel_rfl) ?_
 have n0 : New w1 w1.drew := (New.refl w1).drew
 replace y0 := fun W (hW : New w1.drew W) => y0 W (Keep.new n0 hW)
 replace y1 := fun W (hW : New w1.drew W) => y1 W (Keep.new n0 hW)
 replace y2 := fun W (hW : New w1.drew W) => y2 W (Keep.new n0 hW)
 refine take1 0 ?_
 refine take1 1 ?_
 refine take1 2 ?_
 refine take1 3 ?_
 refine hold_step (i := 4) (by kernel_rfl) rfl rfl (fun K hK => ?_)
 go_simp
 refine (HRT _).out.mono ?_
 rintro e w2 ⟨rfl, k2⟩
 go_wp2_with fail
 refine hK.out _ _ k2 ?_
 clear hK K
 try simp only [Act.put, ly1, ly2, ly3, ly4, ly5, ly6]
 replace n0 := Keep.new n0 k2
 replace y0 := fun W (hW : New w2 W) => y0 W (Keep.new k2 hW)
 replace y1 := fun W (hW : New w2 W) => y1 W (Keep.new k2 hW)
 replace y2 := fun W (hW : New w2 W) => y2 W (Keep.new k2 hW)
 refine take1 5 ?_
 refine take1 6 ?_
 refine take1 7 ?_
 refine take1 8 ?_
 refine take1 9 ?_
 refine take1 10 ?_
 refine hold_step (i := 11) (by kernel_rfl) rfl rfl (fun K hK => ?_)
 go_simp
 refine (HSC _ (HK.out.new n0)).out.mono ?_
 rintro e w3 ⟨rfl, k3⟩; have k3 := New.of_eq k3
 go_wp2_with fail
 refine hK.out _ _ k3 ?_
 clear hK K
 try simp only [Act.put, ly1, ly2, ly3, ly4, ly5, ly6]
 replace n0 := Keep.new n0 k3
 replace y0 := fun W (hW : New w3 W) => y0 W (Keep.new k3 hW)
 replace y1 := fun W (hW : New w3 W) => y1 W (Keep.new k3 hW)
 replace y2 := fun W (hW : New w3 W) => y2 W (Keep.new k3 hW)
 refine take1 12 ?_
 refine take1 13 ?_
 refine take1 14 ?_
 refine take1 15 ?_
 refine take1 16 ?_
 refine take1 17 ?_
 refine take1 18 ?_
 refine take1 19 ?_
 refine take1 20 ?_
 refine take1 21 ?_
 refine take1 22 ?_
 refine take1 23 ?_
 refine take1 24 ?_
 refine skip1 25 ?_
 refine skip1 26 ?_
 refine skip1 27 ?_
 refine take1 28 ?_
 refine take1 29 ?_
 refine skip1 30 ?_
 refine skip1 31 ?_
 refine take1 32 ?_
 refine take1 33 ?_
 refine skip1 34 ?_
 refine skip1 35 ?_
 refine take1 36 ?_
 refine wpAnyH_done (by kernel_rfl) ?_ _
 go_wp2_with fail
 refine bodyPost_ret (v := .tuple #[.pointer none, .slice none 0 0, .int .i64 1]) (by simp [results, Tryz.results13, go_sem]) rfl ?_
 exact ⟨rfl, HK.out.new n0⟩
set_option maxRecDepth 100000 in
set_option maxHeartbeats 1000000 in
theorem lopen_head {w : World} (s p g fr next : Int) (hs : -9223372036854775808 ≤ s ∧ s ≤ 9223372036854775807) (I Hd : Option Addr) (ni ci nh hc : Nat) (hr : planRight s p g = true) {q : DiskB} {S : List UInt8} {k : Nat} (hC : Clean w q S) (hk : S.length = k * 128) (h2 : s = (k : Int)) (h3 : 0 ≤ fr) (h4 : fr ≤ g) (h5 : nh ≠ 32) :
  Calls Tryz.prog 13 #[.pointer (some ⟨q.bd, 0, none⟩), .agg #[.int .i64 s, .int .i64 p, .int .i64 g], .slice I ni ci, .int .i64 fr, .slice Hd nh hc, .int .u64 next] w fun e w' => e = .returned (.tuple #[.pointer none, .slice none 0 0, .int .i64 1]) ∧ New w w' := by
 have k1 : New w (w.alloc (.cells #[.int .i64 s, .int .i64 p, .int .i64 g] 31)) := (New.refl w).alloc _
 have x1 := heap_alloc_new w (.cells #[.int .i64 s, .int .i64 p, .int .i64 g] 31)
 have HRT := fun W => Lib.hid (right21_any s p g hs W)
 rw [hr] at HRT
 have HSC := fun W (hW : New w W) => Lib.hid (by (obtain ⟨wr0, hd⟩ := hC.new hW); exact sectors_any hd hk)
 have e2 : (s != (k : Int)) = false := by simp [h2]
 have e3 : decide (fr < 0) = false := decide_eq_false (by omega)
 have e4 : decide (g < fr) = false := decide_eq_false (by omega)
 have e5 : ((nh : Int) != 32) = true := by simp; omega
 clear hC hk
 replace h2 := Lib.hid h2
 replace h3 := Lib.hid h3
 replace h4 := Lib.hid h4
 replace h5 := Lib.hid h5
 generalize hw1 : w.alloc (.cells #[.int .i64 s, .int .i64 p, .int .i64 g] 31) = w1 at *
 have y0 : ∀ W, New w1 W → W.cell? ⟨w.heap.size, 0, none⟩ = some (.int .i64 s) := fun W hW => cellOf (k := 0) (hW.blockAt x1 trivial) rfl
 have y1 : ∀ W, New w1 W → W.cell? ⟨w.heap.size, 1, none⟩ = some (.int .i64 p) := fun W hW => cellOf (k := 1) (hW.blockAt x1 trivial) rfl
 have y2 : ∀ W, New w1 W → W.cell? ⟨w.heap.size, 2, none⟩ = some (.int .i64 g) := fun W hW => cellOf (k := 2) (hW.blockAt x1 trivial) rfl
 have HK := Lib.hid k1
 clear x1 k1
 go_enter Tryz.func13, Tryz.ntmps13
 go_upto_region 1 with fail
 clear hw1
 refine hold_begin (by kernel_rfl) ?_
 have n0 : New w1 w1.drew := (New.refl w1).drew
 replace y0 := fun W (hW : New w1.drew W) => y0 W (Keep.new n0 hW)
 replace y1 := fun W (hW : New w1.drew W) => y1 W (Keep.new n0 hW)
 replace y2 := fun W (hW : New w1.drew W) => y2 W (Keep.new n0 hW)
 refine take1 0 ?_
 refine take1 1 ?_
 refine take1 2 ?_
 refine take1 3 ?_
 refine hold_step (i := 4) (by kernel_rfl) rfl rfl (fun K hK => ?_)
 go_simp
 refine (HRT _).out.mono ?_
 rintro e w2 ⟨rfl, k2⟩
 go_wp2_with fail
 refine hK.out _ _ k2 ?_
 clear hK K
 try simp only [Act.put, ly1, ly2, ly3, ly4, ly5, ly6]
 replace n0 := Keep.new n0 k2
 replace y0 := fun W (hW : New w2 W) => y0 W (Keep.new k2 hW)
 replace y1 := fun W (hW : New w2 W) => y1 W (Keep.new k2 hW)
 replace y2 := fun W (hW : New w2 W) => y2 W (Keep.new k2 hW)
 refine take1 5 ?_
 refine take1 6 ?_
 refine take1 7 ?_
 refine take1 8 ?_
 refine take1 9 ?_
 refine take1 10 ?_
 refine hold_step (i := 11) (by kernel_rfl) rfl rfl (fun K hK => ?_)
 go_simp
 refine (HSC _ (HK.out.new n0)).out.mono ?_
 rintro e w3 ⟨rfl, k3⟩; have k3 := New.of_eq k3
 go_wp2_with fail
 refine hK.out _ _ k3 ?_
 clear hK K
 try simp only [Act.put, ly1, ly2, ly3, ly4, ly5, ly6]
 replace n0 := Keep.new n0 k3
 replace y0 := fun W (hW : New w3 W) => y0 W (Keep.new k3 hW)
 replace y1 := fun W (hW : New w3 W) => y1 W (Keep.new k3 hW)
 replace y2 := fun W (hW : New w3 W) => y2 W (Keep.new k3 hW)
 refine take1 12 ?_
 refine take1 13 ?_
 refine take1 14 ?_
 refine take1 15 ?_
 refine take1 16 ?_
 refine take1 17 ?_
 refine take1 18 ?_
 refine take1 19 ?_
 refine take1 20 ?_
 refine take1 21 ?_
 refine take1 22 ?_
 refine take1 23 ?_
 refine take1 24 ?_
 refine take1 25 ?_
 refine take1 26 ?_
 refine take1 27 ?_
 refine take1 28 ?_
 refine take1 29 ?_
 refine skip1 30 ?_
 refine skip1 31 ?_
 refine take1 32 ?_
 refine take1 33 ?_
 refine skip1 34 ?_
 refine skip1 35 ?_
 refine take1 36 ?_
 refine wpAnyH_done (by kernel_rfl) ?_ _
 go_wp2_with fail
 refine bodyPost_ret (v := .tuple #[.pointer none, .slice none 0 0, .int .i64 1]) (by simp [results, Tryz.results13, go_sem]) rfl ?_
 exact ⟨rfl, HK.out.new n0⟩
set_option maxRecDepth 100000 in
set_option maxHeartbeats 1000000 in
theorem lopen_first {w : World} (s p g fr next : Int) (hs : -9223372036854775808 ≤ s ∧ s ≤ 9223372036854775807) (I Hd : Option Addr) (ni ci nh hc : Nat) (hr : planRight s p g = true) {q : DiskB} {S : List UInt8} {k : Nat} (hC : Clean w q S) (hk : S.length = k * 128) (h2 : s = (k : Int)) (h3 : 0 ≤ fr) (h4 : fr ≤ g) (h5 : nh = 32) (h6 : next < 1) :
  Calls Tryz.prog 13 #[.pointer (some ⟨q.bd, 0, none⟩), .agg #[.int .i64 s, .int .i64 p, .int .i64 g], .slice I ni ci, .int .i64 fr, .slice Hd nh hc, .int .u64 next] w fun e w' => e = .returned (.tuple #[.pointer none, .slice none 0 0, .int .i64 1]) ∧ New w w' := by
 have k1 : New w (w.alloc (.cells #[.int .i64 s, .int .i64 p, .int .i64 g] 31)) := (New.refl w).alloc _
 have x1 := heap_alloc_new w (.cells #[.int .i64 s, .int .i64 p, .int .i64 g] 31)
 have HRT := fun W => Lib.hid (right21_any s p g hs W)
 rw [hr] at HRT
 have HSC := fun W (hW : New w W) => Lib.hid (by (obtain ⟨wr0, hd⟩ := hC.new hW); exact sectors_any hd hk)
 have e2 : (s != (k : Int)) = false := by simp [h2]
 have e3 : decide (fr < 0) = false := decide_eq_false (by omega)
 have e4 : decide (g < fr) = false := decide_eq_false (by omega)
 subst h5
 have e6 : decide (next < 1) = true := decide_eq_true h6
 clear hC hk
 replace h2 := Lib.hid h2
 replace h3 := Lib.hid h3
 replace h4 := Lib.hid h4
 replace h6 := Lib.hid h6
 generalize hw1 : w.alloc (.cells #[.int .i64 s, .int .i64 p, .int .i64 g] 31) = w1 at *
 have y0 : ∀ W, New w1 W → W.cell? ⟨w.heap.size, 0, none⟩ = some (.int .i64 s) := fun W hW => cellOf (k := 0) (hW.blockAt x1 trivial) rfl
 have y1 : ∀ W, New w1 W → W.cell? ⟨w.heap.size, 1, none⟩ = some (.int .i64 p) := fun W hW => cellOf (k := 1) (hW.blockAt x1 trivial) rfl
 have y2 : ∀ W, New w1 W → W.cell? ⟨w.heap.size, 2, none⟩ = some (.int .i64 g) := fun W hW => cellOf (k := 2) (hW.blockAt x1 trivial) rfl
 have HK := Lib.hid k1
 clear x1 k1
 go_enter Tryz.func13, Tryz.ntmps13
 go_upto_region 1 with fail
 clear hw1
 refine hold_begin (by kernel_rfl) ?_
 have n0 : New w1 w1.drew := (New.refl w1).drew
 replace y0 := fun W (hW : New w1.drew W) => y0 W (Keep.new n0 hW)
 replace y1 := fun W (hW : New w1.drew W) => y1 W (Keep.new n0 hW)
 replace y2 := fun W (hW : New w1.drew W) => y2 W (Keep.new n0 hW)
 refine take1 0 ?_
 refine take1 1 ?_
 refine take1 2 ?_
 refine take1 3 ?_
 refine hold_step (i := 4) (by kernel_rfl) rfl rfl (fun K hK => ?_)
 go_simp
 refine (HRT _).out.mono ?_
 rintro e w2 ⟨rfl, k2⟩
 go_wp2_with fail
 refine hK.out _ _ k2 ?_
 clear hK K
 try simp only [Act.put, ly1, ly2, ly3, ly4, ly5, ly6]
 replace n0 := Keep.new n0 k2
 replace y0 := fun W (hW : New w2 W) => y0 W (Keep.new k2 hW)
 replace y1 := fun W (hW : New w2 W) => y1 W (Keep.new k2 hW)
 replace y2 := fun W (hW : New w2 W) => y2 W (Keep.new k2 hW)
 refine take1 5 ?_
 refine take1 6 ?_
 refine take1 7 ?_
 refine take1 8 ?_
 refine take1 9 ?_
 refine take1 10 ?_
 refine hold_step (i := 11) (by kernel_rfl) rfl rfl (fun K hK => ?_)
 go_simp
 refine (HSC _ (HK.out.new n0)).out.mono ?_
 rintro e w3 ⟨rfl, k3⟩; have k3 := New.of_eq k3
 go_wp2_with fail
 refine hK.out _ _ k3 ?_
 clear hK K
 try simp only [Act.put, ly1, ly2, ly3, ly4, ly5, ly6]
 replace n0 := Keep.new n0 k3
 replace y0 := fun W (hW : New w3 W) => y0 W (Keep.new k3 hW)
 replace y1 := fun W (hW : New w3 W) => y1 W (Keep.new k3 hW)
 replace y2 := fun W (hW : New w3 W) => y2 W (Keep.new k3 hW)
 refine take1 12 ?_
 refine take1 13 ?_
 refine take1 14 ?_
 refine take1 15 ?_
 refine take1 16 ?_
 refine take1 17 ?_
 refine take1 18 ?_
 refine take1 19 ?_
 refine take1 20 ?_
 refine take1 21 ?_
 refine take1 22 ?_
 refine take1 23 ?_
 refine take1 24 ?_
 refine take1 25 ?_
 refine take1 26 ?_
 refine take1 27 ?_
 refine take1 28 ?_
 refine take1 29 ?_
 refine take1 30 ?_
 refine take1 31 ?_
 refine take1 32 ?_
 refine take1 33 ?_
 refine skip1 34 ?_
 refine skip1 35 ?_
 refine take1 36 ?_
 refine wpAnyH_done (by kernel_rfl) ?_ _
 go_wp2_with fail
 refine bodyPost_ret (v := .tuple #[.pointer none, .slice none 0 0, .int .i64 1]) (by simp [results, Tryz.results13, go_sem]) rfl ?_
 exact ⟨rfl, HK.out.new n0⟩
set_option maxRecDepth 100000 in
set_option maxHeartbeats 1000000 in
theorem lopen_time {w : World} (s p g fr next : Int) (hs : -9223372036854775808 ≤ s ∧ s ≤ 9223372036854775807) (I Hd : Option Addr) (ni ci nh hc : Nat) (hr : planRight s p g = true) {q : DiskB} {S : List UInt8} {k : Nat} (hC : Clean w q S) (hk : S.length = k * 128) (h2 : s = (k : Int)) (h3 : 0 ≤ fr) (h4 : fr ≤ g) (h5 : nh = 32) (h6 : 1 ≤ next) (h7 : 1099511627776 < next) :
  Calls Tryz.prog 13 #[.pointer (some ⟨q.bd, 0, none⟩), .agg #[.int .i64 s, .int .i64 p, .int .i64 g], .slice I ni ci, .int .i64 fr, .slice Hd nh hc, .int .u64 next] w fun e w' => e = .returned (.tuple #[.pointer none, .slice none 0 0, .int .i64 1]) ∧ New w w' := by
 have k1 : New w (w.alloc (.cells #[.int .i64 s, .int .i64 p, .int .i64 g] 31)) := (New.refl w).alloc _
 have x1 := heap_alloc_new w (.cells #[.int .i64 s, .int .i64 p, .int .i64 g] 31)
 have HRT := fun W => Lib.hid (right21_any s p g hs W)
 rw [hr] at HRT
 have HSC := fun W (hW : New w W) => Lib.hid (by (obtain ⟨wr0, hd⟩ := hC.new hW); exact sectors_any hd hk)
 have e2 : (s != (k : Int)) = false := by simp [h2]
 have e3 : decide (fr < 0) = false := decide_eq_false (by omega)
 have e4 : decide (g < fr) = false := decide_eq_false (by omega)
 subst h5
 have e6 : decide (next < 1) = false := decide_eq_false (by omega)
 have e7 : decide (1099511627776 < next) = true := decide_eq_true h7
 clear hC hk
 replace h2 := Lib.hid h2
 replace h3 := Lib.hid h3
 replace h4 := Lib.hid h4
 replace h6 := Lib.hid h6
 replace h7 := Lib.hid h7
 generalize hw1 : w.alloc (.cells #[.int .i64 s, .int .i64 p, .int .i64 g] 31) = w1 at *
 have y0 : ∀ W, New w1 W → W.cell? ⟨w.heap.size, 0, none⟩ = some (.int .i64 s) := fun W hW => cellOf (k := 0) (hW.blockAt x1 trivial) rfl
 have y1 : ∀ W, New w1 W → W.cell? ⟨w.heap.size, 1, none⟩ = some (.int .i64 p) := fun W hW => cellOf (k := 1) (hW.blockAt x1 trivial) rfl
 have y2 : ∀ W, New w1 W → W.cell? ⟨w.heap.size, 2, none⟩ = some (.int .i64 g) := fun W hW => cellOf (k := 2) (hW.blockAt x1 trivial) rfl
 have HK := Lib.hid k1
 clear x1 k1
 go_enter Tryz.func13, Tryz.ntmps13
 go_upto_region 1 with fail
 clear hw1
 refine hold_begin (by kernel_rfl) ?_
 have n0 : New w1 w1.drew := (New.refl w1).drew
 replace y0 := fun W (hW : New w1.drew W) => y0 W (Keep.new n0 hW)
 replace y1 := fun W (hW : New w1.drew W) => y1 W (Keep.new n0 hW)
 replace y2 := fun W (hW : New w1.drew W) => y2 W (Keep.new n0 hW)
 refine take1 0 ?_
 refine take1 1 ?_
 refine take1 2 ?_
 refine take1 3 ?_
 refine hold_step (i := 4) (by kernel_rfl) rfl rfl (fun K hK => ?_)
 go_simp
 refine (HRT _).out.mono ?_
 rintro e w2 ⟨rfl, k2⟩
 go_wp2_with fail
 refine hK.out _ _ k2 ?_
 clear hK K
 try simp only [Act.put, ly1, ly2, ly3, ly4, ly5, ly6]
 replace n0 := Keep.new n0 k2
 replace y0 := fun W (hW : New w2 W) => y0 W (Keep.new k2 hW)
 replace y1 := fun W (hW : New w2 W) => y1 W (Keep.new k2 hW)
 replace y2 := fun W (hW : New w2 W) => y2 W (Keep.new k2 hW)
 refine take1 5 ?_
 refine take1 6 ?_
 refine take1 7 ?_
 refine take1 8 ?_
 refine take1 9 ?_
 refine take1 10 ?_
 refine hold_step (i := 11) (by kernel_rfl) rfl rfl (fun K hK => ?_)
 go_simp
 refine (HSC _ (HK.out.new n0)).out.mono ?_
 rintro e w3 ⟨rfl, k3⟩; have k3 := New.of_eq k3
 go_wp2_with fail
 refine hK.out _ _ k3 ?_
 clear hK K
 try simp only [Act.put, ly1, ly2, ly3, ly4, ly5, ly6]
 replace n0 := Keep.new n0 k3
 replace y0 := fun W (hW : New w3 W) => y0 W (Keep.new k3 hW)
 replace y1 := fun W (hW : New w3 W) => y1 W (Keep.new k3 hW)
 replace y2 := fun W (hW : New w3 W) => y2 W (Keep.new k3 hW)
 refine take1 12 ?_
 refine take1 13 ?_
 refine take1 14 ?_
 refine take1 15 ?_
 refine take1 16 ?_
 refine take1 17 ?_
 refine take1 18 ?_
 refine take1 19 ?_
 refine take1 20 ?_
 refine take1 21 ?_
 refine take1 22 ?_
 refine take1 23 ?_
 refine take1 24 ?_
 refine take1 25 ?_
 refine take1 26 ?_
 refine take1 27 ?_
 refine take1 28 ?_
 refine take1 29 ?_
 refine take1 30 ?_
 refine take1 31 ?_
 refine take1 32 ?_
 refine take1 33 ?_
 refine take1 34 ?_
 refine take1 35 ?_
 refine take1 36 ?_
 refine wpAnyH_done (by kernel_rfl) ?_ _
 go_wp2_with fail
 refine bodyPost_ret (v := .tuple #[.pointer none, .slice none 0 0, .int .i64 1]) (by simp [results, Tryz.results13, go_sem]) rfl ?_
 exact ⟨rfl, HK.out.new n0⟩
end Go.Proofs.YtajnkbfcnmajoaaGreatDoor
