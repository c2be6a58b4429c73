/-
  PROVED HERE: what merkle.Path, proof.follows and permafrostref24.behind answer; conditions: lengths that a slice may have.
-/
import Derived.Test.YtfegdgaanmcecaaGreatDoorPkN26
namespace Go.Proofs.YtfegdgaanmcecaaGreatDoor
open Go.RowKit
theorem path_ok (D : Nat → Prop) (A : Option Addr) (n c : Nat) (ls : List (List UInt8)) (i : Nat) (w : World) (hB : Bss w D A n ls) (hc : n ≤ c) (hb : ls.flatten.length ≤ 1099511620000) (hn : n ≤ 1099511620000) (hc9 : c ≤ 9223372036854775807) (hi : i < n) :
  Calls Tryz.prog 36 #[.slice A n c, .int .i64 (i : Int)] w fun e w' => (∃ A' c', e = .returned (.tuple #[.slice A' (pathOf ls i).length c', .int .i64 0]) ∧ OwnImgs w' w.heap.size (fun b => w.heap.size ≤ b) A' (pathOf ls i).length c' (pathOf ls i)) ∧ New w w' := by
 have HP := Lib.hid (path_any n D A c ls i w hB hc hb hn hc9 (by omega))
 have e0 : ¬ (i : Int) < 0 := by omega
 have e1 : ¬ (n : Int) ≤ i := by omega
 generalize pathOf ls i = ps at *
 clear hB hb
 go_enter Tryz.func36, Tryz.ntmps36
 go_wp2_with fail
 refine HP.out.mono ?_
 rintro e w1 ⟨⟨A1, c1, rfl, o1⟩, k1⟩
 go_wp2_with fail
 refine bodyPost_ret (v := .tuple #[.slice A1 ps.length c1, .int .i64 0]) (by simp [results, Tryz.results36, go_sem]) rfl ?_
 exact ⟨⟨A1, c1, rfl, o1⟩, k1⟩
def followOf (a b : HeadP) : Bool := b.index == IntKind.i64.wrap (a.index + 1) && b.first == IntKind.u64.wrap (a.first + IntKind.u64.wrap a.count) && b.prev == sealOf a
set_option maxRecDepth 100000 in
set_option maxHeartbeats 2000000 in
theorem follows_any (D1 D2 D3 _D4 : Nat → Prop) (P1 R1 P2 R2 : Option Addr) (p1 r1 p2 r2 : Nat) (a b : HeadP) (w : World) (hP1 : Bs w D1 P1 a.prev.length a.prev) (hp1 : a.prev.length ≤ p1) (hR1 : Bs w D2 R1 a.root.length a.root) (hr1 : a.root.length ≤ r1) (hP2 : Bs w D3 P2 b.prev.length b.prev) (hf0 : 0 ≤ a.first) (hf1 : a.first ≤ 18446744073709551615) :
  Calls Tryz.prog 32 #[.agg #[.int .i64 a.index, .int .u64 a.first, .int .i64 a.count, .int .i64 a.bytes, .slice P1 a.prev.length p1, .slice R1 a.root.length r1], .agg #[.int .i64 b.index, .int .u64 b.first, .int .i64 b.count, .int .i64 b.bytes, .slice P2 b.prev.length p2, .slice R2 b.root.length r2]] w fun e w' => e = .returned (.bool (followOf a b)) ∧ New w w' := by
 have HXB := Lib.hid (heap_alloc_new (w.alloc (.cells #[.int .i64 a.index, .int .u64 a.first, .int .i64 a.count, .int .i64 a.bytes, .slice P1 a.prev.length p1, .slice R1 a.root.length r1] 33)) (.cells #[.int .i64 b.index, .int .u64 b.first, .int .i64 b.count, .int .i64 b.bytes, .slice P2 b.prev.length p2, .slice R2 b.root.length r2] 33))
 have HXA := Lib.hid (((New.refl (w.alloc (.cells #[.int .i64 a.index, .int .u64 a.first, .int .i64 a.count, .int .i64 a.bytes, .slice P1 a.prev.length p1, .slice R1 a.root.length r1] 33))).alloc (.cells #[.int .i64 b.index, .int .u64 b.first, .int .i64 b.count, .int .i64 b.bytes, .slice P2 b.prev.length p2, .slice R2 b.root.length r2] 33)).blockAt (heap_alloc_new w (.cells #[.int .i64 a.index, .int .u64 a.first, .int .i64 a.count, .int .i64 a.bytes, .slice P1 a.prev.length p1, .slice R1 a.root.length r1] 33)) trivial)
 have HN := Lib.hid (((New.refl w).alloc (.cells #[.int .i64 a.index, .int .u64 a.first, .int .i64 a.count, .int .i64 a.bytes, .slice P1 a.prev.length p1, .slice R1 a.root.length r1] 33)).alloc (.cells #[.int .i64 b.index, .int .u64 b.first, .int .i64 b.count, .int .i64 b.bytes, .slice P2 b.prev.length p2, .slice R2 b.root.length r2] 33))
 rw [World.size_alloc] at HXB
 have HP1 := Lib.hid (Row.new hP1 HN.out)
 have HR1 := Lib.hid (Row.new hR1 HN.out)
 have HB := Lib.hid (Row.new hP2 HN.out)
 have HFO : Hid (followOf a b = (b.index == IntKind.i64.wrap (a.index + 1) && b.first == IntKind.u64.wrap (a.first + IntKind.u64.wrap a.count) && b.prev == sealOf a)) := Lib.hid rfl
 clear hP1 hR1 hP2
 go_enter Tryz.func32, Tryz.ntmps32
 go_wp2_with fail
 generalize (w.alloc (.cells #[.int .i64 a.index, .int .u64 a.first, .int .i64 a.count, .int .i64 a.bytes, .slice P1 a.prev.length p1, .slice R1 a.root.length r1] 33)).alloc (.cells #[.int .i64 b.index, .int .u64 b.first, .int .i64 b.count, .int .i64 b.bytes, .slice P2 b.prev.length p2, .slice R2 b.root.length r2] 33) = w2 at *
 have HS := Lib.hid (fun W (q : New w2.drew W) => seal_any D1 D2 P1 R1 a.prev.length p1 a.root.length r1 a W (Row.new (w := w2.drew) (Row.drew HP1.out) q) hp1 (Row.new (w := w2.drew) (Row.drew HR1.out) q) hr1 hf0 hf1)
 have x0 : ∀ W, New w2.drew W → W.cell? ⟨w.heap.size, 0, none⟩ = some (.int .i64 a.index) := fun W q => q.cell_some (a := w2.drew) (cellOf HXA.out rfl) trivial
 have x1 : ∀ W, New w2.drew W → W.cell? ⟨w.heap.size, 1, none⟩ = some (.int .u64 a.first) := fun W q => q.cell_some (a := w2.drew) (cellOf HXA.out rfl) trivial
 have x2 : ∀ W, New w2.drew W → W.cell? ⟨w.heap.size, 2, none⟩ = some (.int .i64 a.count) := fun W q => q.cell_some (a := w2.drew) (cellOf HXA.out rfl) trivial
 have x3 : ∀ W, New w2.drew W → W.cell? ⟨w.heap.size, 3, none⟩ = some (.int .i64 a.bytes) := fun W q => q.cell_some (a := w2.drew) (cellOf HXA.out rfl) trivial
 have x4 : ∀ W, New w2.drew W → W.cell? ⟨w.heap.size, 4, none⟩ = some (.slice P1 a.prev.length p1) := fun W q => q.cell_some (a := w2.drew) (cellOf HXA.out rfl) trivial
 have x5 : ∀ W, New w2.drew W → W.cell? ⟨w.heap.size, 5, none⟩ = some (.slice R1 a.root.length r1) := fun W q => q.cell_some (a := w2.drew) (cellOf HXA.out rfl) trivial
 have z0 : ∀ W, New w2.drew W → W.cell? ⟨w.heap.size + 1, 0, none⟩ = some (.int .i64 b.index) := fun W q => q.cell_some (a := w2.drew) (cellOf HXB.out rfl) trivial
 have z1 : ∀ W, New w2.drew W → W.cell? ⟨w.heap.size + 1, 1, none⟩ = some (.int .u64 b.first) := fun W q => q.cell_some (a := w2.drew) (cellOf HXB.out rfl) trivial
 have z4 : ∀ W, New w2.drew W → W.cell? ⟨w.heap.size + 1, 4, none⟩ = some (.slice P2 b.prev.length p2) := fun W q => q.cell_some (a := w2.drew) (cellOf HXB.out rfl) trivial
 cases h1 : (b.index == IntKind.i64.wrap (a.index + 1))
 ·rw [h1, Bool.false_and, Bool.false_and] at HFO
  go_wp2_with fail
  refine hold_begin (by kernel_rfl) ?_
  have n0 : New w2.drew w2.drew := New.refl _
  refine take0 0 n0 ?_
  refine take0 1 n0 ?_
  refine take0 2 n0 ?_
  refine take0 3 n0 ?_
  refine take0 4 n0 ?_
  refine take0 5 n0 ?_
  refine take0 6 n0 ?_
  refine skip0 7 n0 ?_
  refine skip0 8 n0 ?_
  refine skip0 9 n0 ?_
  refine skip0 10 n0 ?_
  refine skip0 11 n0 ?_
  refine skip0 12 n0 ?_
  refine skip0 13 n0 ?_
  refine skip0 14 n0 ?_
  refine skip0 15 n0 ?_
  refine take0 16 n0 ?_
  refine take0 17 n0 ?_
  refine skip0 18 n0 ?_
  refine skip0 19 n0 ?_
  refine skip0 20 n0 ?_
  refine skip0 21 n0 ?_
  refine skip0 22 n0 ?_
  refine take0 23 n0 ?_
  refine take0 24 n0 ?_
  refine wpAnyH_done (by kernel_rfl) ?_ _
  go_wp2_with fail
  go_ret
  exact ⟨by rw [HFO.out]; rfl, HN.out.drew⟩
 ·cases h2 : (b.first == IntKind.u64.wrap (a.first + IntKind.u64.wrap a.count))
  ·rw [h1, h2, Bool.true_and, Bool.false_and] at HFO
   go_wp2_with fail
   refine hold_begin (by kernel_rfl) ?_
   have n0 : New w2.drew w2.drew := New.refl _
   refine take0 0 n0 ?_
   refine take0 1 n0 ?_
   refine take0 2 n0 ?_
   refine take0 3 n0 ?_
   refine take0 4 n0 ?_
   refine take0 5 n0 ?_
   refine take0 6 n0 ?_
   refine take0 7 n0 ?_
   refine take0 8 n0 ?_
   refine take0 9 n0 ?_
   refine take0 10 n0 ?_
   refine take0 11 n0 ?_
   refine take0 12 n0 ?_
   refine take0 13 n0 ?_
   refine take0 14 n0 ?_
   refine take0 15 n0 ?_
   refine take0 16 n0 ?_
   refine take0 17 n0 ?_
   refine skip0 18 n0 ?_
   refine skip0 19 n0 ?_
   refine skip0 20 n0 ?_
   refine skip0 21 n0 ?_
   refine skip0 22 n0 ?_
   refine take0 23 n0 ?_
   refine take0 24 n0 ?_
   refine wpAnyH_done (by kernel_rfl) ?_ _
   go_wp2_with fail
   go_ret
   exact ⟨by rw [HFO.out]; rfl, HN.out.drew⟩
  ·rw [h1, h2, Bool.true_and, Bool.true_and] at HFO
   go_wp2_with fail
   refine hold_begin (by kernel_rfl) ?_
   have n0 : New w2.drew w2.drew := New.refl _
   refine take0 0 n0 ?_
   refine take0 1 n0 ?_
   refine take0 2 n0 ?_
   refine take0 3 n0 ?_
   refine take0 4 n0 ?_
   refine take0 5 n0 ?_
   refine take0 6 n0 ?_
   refine take0 7 n0 ?_
   refine take0 8 n0 ?_
   refine take0 9 n0 ?_
   refine take0 10 n0 ?_
   refine take0 11 n0 ?_
   refine take0 12 n0 ?_
   refine take0 13 n0 ?_
   refine take0 14 n0 ?_
   refine take0 15 n0 ?_
   refine take0 16 n0 ?_
   refine take0 17 n0 ?_
   refine take0 18 n0 ?_
   refine take0 19 n0 ?_
   refine take0 20 n0 ?_
   refine hold_step0 (i := 21) (by kernel_rfl) rfl rfl (fun K hK => ?_)
   go_simp
   refine (HS.out _ n0).mono ?_
   rintro e w3 ⟨⟨A3, c3, rfl, o3⟩, k3⟩
   go_wp2_with fail
   have n1 := Keep.new n0 k3
   refine hK.out _ _ n1 ?_
   clear hK K
   try simp only [Act.put, ly1, ly2, ly3, ly4, ly5, ly6]
   replace n0 := n1
   clear n1
   refine hold_step0 (i := 22) (by kernel_rfl) rfl rfl (fun K hK => ?_)
   go_simp
   refine (equal_any _ _ P2 A3 b.prev.length p2 32 c3 b.prev (sealOf a) _ ((HB.out.new (Keep.new (Keep.drew (New.refl _)) n0))) (Row.of_own o3)).mono ?_
   rintro e w4 ⟨rfl, rfl⟩
   go_wp2_with fail
   have n1 := Keep.new n0 (New.refl _)
   refine hK.out _ _ n1 ?_
   clear hK K
   try simp only [Act.put, ly1, ly2, ly3, ly4, ly5, ly6]
   replace n0 := n1
   clear n1
   refine take0 23 n0 ?_
   refine take0 24 n0 ?_
   refine wpAnyH_done (by kernel_rfl) ?_ _
   have hN := HN.out.new (Keep.new (Keep.drew (New.refl w2)) n0)
   go_wp2_with fail
   go_ret
   exact ⟨by rw [HFO.out]; rfl, hN⟩
set_option maxRecDepth 100000 in
set_option maxHeartbeats 2000000 in
theorem behind_any (D1 D2 D3 _D4 : Nat → Prop) (P1 R1 P2 R2 : Option Addr) (p1 r1 p2 r2 : Nat) (a b : HeadP) (w : World) (hP1 : Bs w D1 P1 a.prev.length a.prev) (hp1 : a.prev.length ≤ p1) (hR1 : Bs w D2 R1 a.root.length a.root) (hr1 : a.root.length ≤ r1) (hP2 : Bs w D3 P2 b.prev.length b.prev) (hf0 : 0 ≤ a.first) (hf1 : a.first ≤ 18446744073709551615) :
  Calls Tryz.prog 48 #[.agg #[.int .i64 a.index, .int .u64 a.first, .int .i64 a.count, .int .i64 a.bytes, .slice P1 a.prev.length p1, .slice R1 a.root.length r1], .agg #[.int .i64 b.index, .int .u64 b.first, .int .i64 b.count, .int .i64 b.bytes, .slice P2 b.prev.length p2, .slice R2 b.root.length r2]] w fun e w' => e = .returned (.bool (followOf a b)) ∧ New w w' := by
 have HXB := Lib.hid (heap_alloc_new (w.alloc (.cells #[.int .i64 a.index, .int .u64 a.first, .int .i64 a.count, .int .i64 a.bytes, .slice P1 a.prev.length p1, .slice R1 a.root.length r1] 40)) (.cells #[.int .i64 b.index, .int .u64 b.first, .int .i64 b.count, .int .i64 b.bytes, .slice P2 b.prev.length p2, .slice R2 b.root.length r2] 40))
 have HXA := Lib.hid (((New.refl (w.alloc (.cells #[.int .i64 a.index, .int .u64 a.first, .int .i64 a.count, .int .i64 a.bytes, .slice P1 a.prev.length p1, .slice R1 a.root.length r1] 40))).alloc (.cells #[.int .i64 b.index, .int .u64 b.first, .int .i64 b.count, .int .i64 b.bytes, .slice P2 b.prev.length p2, .slice R2 b.root.length r2] 40)).blockAt (heap_alloc_new w (.cells #[.int .i64 a.index, .int .u64 a.first, .int .i64 a.count, .int .i64 a.bytes, .slice P1 a.prev.length p1, .slice R1 a.root.length r1] 40)) trivial)
 have HN := Lib.hid (((New.refl w).alloc (.cells #[.int .i64 a.index, .int .u64 a.first, .int .i64 a.count, .int .i64 a.bytes, .slice P1 a.prev.length p1, .slice R1 a.root.length r1] 40)).alloc (.cells #[.int .i64 b.index, .int .u64 b.first, .int .i64 b.count, .int .i64 b.bytes, .slice P2 b.prev.length p2, .slice R2 b.root.length r2] 40))
 rw [World.size_alloc] at HXB
 have HP1 := Lib.hid (Row.new hP1 HN.out)
 have HR1 := Lib.hid (Row.new hR1 HN.out)
 have HB := Lib.hid (Row.new hP2 HN.out)
 have HFO : Hid (followOf a b = (b.index == IntKind.i64.wrap (a.index + 1) && b.first == IntKind.u64.wrap (a.first + IntKind.u64.wrap a.count) && b.prev == sealOf a)) := Lib.hid rfl
 clear hP1 hR1 hP2
 go_enter Tryz.func48, Tryz.ntmps48
 go_wp2_with fail
 generalize (w.alloc (.cells #[.int .i64 a.index, .int .u64 a.first, .int .i64 a.count, .int .i64 a.bytes, .slice P1 a.prev.length p1, .slice R1 a.root.length r1] 40)).alloc (.cells #[.int .i64 b.index, .int .u64 b.first, .int .i64 b.count, .int .i64 b.bytes, .slice P2 b.prev.length p2, .slice R2 b.root.length r2] 40) = w2 at *
 have HS := Lib.hid (fun W (q : New w2 W) => seal17_any D1 D2 P1 R1 a.prev.length p1 a.root.length r1 a W (Row.new HP1.out q) hp1 (Row.new HR1.out q) hr1 hf0 hf1)
 have x0 : ∀ W, New w2 W → W.cell? ⟨w.heap.size, 0, none⟩ = some (.int .i64 a.index) := fun W q => q.cell_some (a := w2) (cellOf HXA.out rfl) trivial
 have x1 : ∀ W, New w2 W → W.cell? ⟨w.heap.size, 1, none⟩ = some (.int .u64 a.first) := fun W q => q.cell_some (a := w2) (cellOf HXA.out rfl) trivial
 have x2 : ∀ W, New w2 W → W.cell? ⟨w.heap.size, 2, none⟩ = some (.int .i64 a.count) := fun W q => q.cell_some (a := w2) (cellOf HXA.out rfl) trivial
 have x3 : ∀ W, New w2 W → W.cell? ⟨w.heap.size, 3, none⟩ = some (.int .i64 a.bytes) := fun W q => q.cell_some (a := w2) (cellOf HXA.out rfl) trivial
 have x4 : ∀ W, New w2 W → W.cell? ⟨w.heap.size, 4, none⟩ = some (.slice P1 a.prev.length p1) := fun W q => q.cell_some (a := w2) (cellOf HXA.out rfl) trivial
 have x5 : ∀ W, New w2 W → W.cell? ⟨w.heap.size, 5, none⟩ = some (.slice R1 a.root.length r1) := fun W q => q.cell_some (a := w2) (cellOf HXA.out rfl) trivial
 have z0 : ∀ W, New w2 W → W.cell? ⟨w.heap.size + 1, 0, none⟩ = some (.int .i64 b.index) := fun W q => q.cell_some (a := w2) (cellOf HXB.out rfl) trivial
 have z1 : ∀ W, New w2 W → W.cell? ⟨w.heap.size + 1, 1, none⟩ = some (.int .u64 b.first) := fun W q => q.cell_some (a := w2) (cellOf HXB.out rfl) trivial
 have z4 : ∀ W, New w2 W → W.cell? ⟨w.heap.size + 1, 4, none⟩ = some (.slice P2 b.prev.length p2) := fun W q => q.cell_some (a := w2) (cellOf HXB.out rfl) trivial
 have v2 := fun W (q : New w2 W) => run_str (c := p2) (HB.out.new q)
 cases h1 : (b.index == IntKind.i64.wrap (a.index + 1))
 ·rw [h1, Bool.false_and, Bool.false_and] at HFO
  go_wp2_with fail
  refine hold_begin (by kernel_rfl) ?_
  have n0 : New w2 w2.drew := (New.refl w2).drew
  replace x0 := fun W (hW : New w2.drew W) => x0 W (Keep.new n0 hW)
  replace x1 := fun W (hW : New w2.drew W) => x1 W (Keep.new n0 hW)
  replace x2 := fun W (hW : New w2.drew W) => x2 W (Keep.new n0 hW)
  replace x3 := fun W (hW : New w2.drew W) => x3 W (Keep.new n0 hW)
  replace x4 := fun W (hW : New w2.drew W) => x4 W (Keep.new n0 hW)
  replace x5 := fun W (hW : New w2.drew W) => x5 W (Keep.new n0 hW)
  replace z0 := fun W (hW : New w2.drew W) => z0 W (Keep.new n0 hW)
  replace z1 := fun W (hW : New w2.drew W) => z1 W (Keep.new n0 hW)
  replace z4 := fun W (hW : New w2.drew W) => z4 W (Keep.new n0 hW)
  replace v2 := fun W (hW : New w2.drew W) => v2 W (Keep.new n0 hW)
  refine take1 0 ?_
  refine take1 1 ?_
  refine take1 2 ?_
  refine take1 3 ?_
  refine take1 4 ?_
  refine take1 5 ?_
  refine take1 6 ?_
  refine skip1 7 ?_
  refine skip1 8 ?_
  refine skip1 9 ?_
  refine skip1 10 ?_
  refine skip1 11 ?_
  refine skip1 12 ?_
  refine skip1 13 ?_
  refine skip1 14 ?_
  refine skip1 15 ?_
  refine take1 16 ?_
  refine take1 17 ?_
  refine skip1 18 ?_
  refine skip1 19 ?_
  refine skip1 20 ?_
  refine skip1 21 ?_
  refine skip1 22 ?_
  refine skip1 23 ?_
  refine skip1 24 ?_
  refine take1 25 ?_
  refine take1 26 ?_
  refine wpAnyH_done (by kernel_rfl) ?_ _
  go_wp2_with fail
  go_ret
  exact ⟨by rw [HFO.out]; rfl, HN.out.drew⟩
 ·cases h2 : (b.first == IntKind.u64.wrap (a.first + IntKind.u64.wrap a.count))
  ·rw [h1, h2, Bool.true_and, Bool.false_and] at HFO
   go_wp2_with fail
   refine hold_begin (by kernel_rfl) ?_
   have n0 : New w2 w2.drew := (New.refl w2).drew
   replace x0 := fun W (hW : New w2.drew W) => x0 W (Keep.new n0 hW)
   replace x1 := fun W (hW : New w2.drew W) => x1 W (Keep.new n0 hW)
   replace x2 := fun W (hW : New w2.drew W) => x2 W (Keep.new n0 hW)
   replace x3 := fun W (hW : New w2.drew W) => x3 W (Keep.new n0 hW)
   replace x4 := fun W (hW : New w2.drew W) => x4 W (Keep.new n0 hW)
   replace x5 := fun W (hW : New w2.drew W) => x5 W (Keep.new n0 hW)
   replace z0 := fun W (hW : New w2.drew W) => z0 W (Keep.new n0 hW)
   replace z1 := fun W (hW : New w2.drew W) => z1 W (Keep.new n0 hW)
   replace z4 := fun W (hW : New w2.drew W) => z4 W (Keep.new n0 hW)
   replace v2 := fun W (hW : New w2.drew W) => v2 W (Keep.new n0 hW)
   refine take1 0 ?_
   refine take1 1 ?_
   refine take1 2 ?_
   refine take1 3 ?_
   refine take1 4 ?_
   refine take1 5 ?_
   refine take1 6 ?_
   refine take1 7 ?_
   refine take1 8 ?_
   refine take1 9 ?_
   refine take1 10 ?_
   refine take1 11 ?_
   refine take1 12 ?_
   refine take1 13 ?_
   refine take1 14 ?_
   refine take1 15 ?_
   refine take1 16 ?_
   refine take1 17 ?_
   refine skip1 18 ?_
   refine skip1 19 ?_
   refine skip1 20 ?_
   refine skip1 21 ?_
   refine skip1 22 ?_
   refine skip1 23 ?_
   refine skip1 24 ?_
   refine take1 25 ?_
   refine take1 26 ?_
   refine wpAnyH_done (by kernel_rfl) ?_ _
   go_wp2_with fail
   go_ret
   exact ⟨by rw [HFO.out]; rfl, HN.out.drew⟩
  ·rw [h1, h2, Bool.true_and, Bool.true_and] at HFO
   go_wp2_with fail
   refine hold_begin (by kernel_rfl) ?_
   have n0 : New w2 w2.drew := (New.refl w2).drew
   replace x0 := fun W (hW : New w2.drew W) => x0 W (Keep.new n0 hW)
   replace x1 := fun W (hW : New w2.drew W) => x1 W (Keep.new n0 hW)
   replace x2 := fun W (hW : New w2.drew W) => x2 W (Keep.new n0 hW)
   replace x3 := fun W (hW : New w2.drew W) => x3 W (Keep.new n0 hW)
   replace x4 := fun W (hW : New w2.drew W) => x4 W (Keep.new n0 hW)
   replace x5 := fun W (hW : New w2.drew W) => x5 W (Keep.new n0 hW)
   replace z0 := fun W (hW : New w2.drew W) => z0 W (Keep.new n0 hW)
   replace z1 := fun W (hW : New w2.drew W) => z1 W (Keep.new n0 hW)
   replace z4 := fun W (hW : New w2.drew W) => z4 W (Keep.new n0 hW)
   replace v2 := fun W (hW : New w2.drew W) => v2 W (Keep.new n0 hW)
   refine take1 0 ?_
   refine take1 1 ?_
   refine take1 2 ?_
   refine take1 3 ?_
   refine take1 4 ?_
   refine take1 5 ?_
   refine take1 6 ?_
   refine take1 7 ?_
   refine take1 8 ?_
   refine take1 9 ?_
   refine take1 10 ?_
   refine take1 11 ?_
   refine take1 12 ?_
   refine take1 13 ?_
   refine take1 14 ?_
   refine take1 15 ?_
   refine take1 16 ?_
   refine take1 17 ?_
   refine take1 18 ?_
   refine take1 19 ?_
   refine take1 20 ?_
   refine take1 21 ?_
   refine hold_step (i := 22) (by kernel_rfl) rfl rfl (fun K hK => ?_)
   go_simp
   refine (HS.out _ n0).mono ?_
   rintro e w3 ⟨⟨A3, c3, rfl, o3⟩, k3⟩; have v3 := fun W (q : New w3 W) => run_str (c := c3) (Row.of_own (Own.keepNew o3 q))
   go_wp2_with fail
   refine hK.out _ _ k3 ?_
   clear hK K
   try simp only [Act.put, ly1, ly2, ly3, ly4, ly5, ly6]
   replace n0 := Keep.new n0 k3
   replace x0 := fun W (hW : New w3 W) => x0 W (Keep.new k3 hW)
   replace x1 := fun W (hW : New w3 W) => x1 W (Keep.new k3 hW)
   replace x2 := fun W (hW : New w3 W) => x2 W (Keep.new k3 hW)
   replace x3 := fun W (hW : New w3 W) => x3 W (Keep.new k3 hW)
   replace x4 := fun W (hW : New w3 W) => x4 W (Keep.new k3 hW)
   replace x5 := fun W (hW : New w3 W) => x5 W (Keep.new k3 hW)
   replace z0 := fun W (hW : New w3 W) => z0 W (Keep.new k3 hW)
   replace z1 := fun W (hW : New w3 W) => z1 W (Keep.new k3 hW)
   replace z4 := fun W (hW : New w3 W) => z4 W (Keep.new k3 hW)
   replace v2 := fun W (hW : New w3 W) => v2 W (Keep.new k3 hW)
   refine take1 23 ?_
   refine take1 24 ?_
   refine take1 25 ?_
   refine take1 26 ?_
   refine wpAnyH_done (by kernel_rfl) ?_ _
   have hN := HN.out.new n0
   go_wp2_with fail
   go_ret
   exact ⟨by rw [HFO.out]; rfl, hN⟩
end Go.Proofs.YtfegdgaanmcecaaGreatDoor
