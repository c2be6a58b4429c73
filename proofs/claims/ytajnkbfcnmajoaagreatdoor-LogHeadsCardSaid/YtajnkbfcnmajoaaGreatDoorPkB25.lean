/-
  PROVED HERE: what permafrostref16.Right, Size, Encode and Decode answer: what the program's do; conditions: lengths that a slice may have.
-/
import Derived.Test.YtajnkbfcnmajoaaGreatDoorPkB10
import Derived.Test.YtajnkbfcnmajoaaGreatDoorPkB24
namespace Go.Proofs.YtajnkbfcnmajoaaGreatDoor
open Go.RowKit
set_option maxRecDepth 100000 in
theorem right16_any (ki se : Int) (A : Option Addr) (n c : Nat) (r : RecP) (w : World) (hk : r.kind = ki) (hs : r.seq = se) (hl : r.body.length = n) (hn : n ≤ 9223372036854775807) :
  Calls Tryz.prog 52 #[.agg #[.int .i64 ki, .int .u64 se, .slice A n c]] w fun e w' => e = .returned (.bool (recRight r)) ∧ New w w' := by
 have hN : ∀ o, New w (w.alloc o) := fun o => (New.refl w).alloc o
 have HN := Lib.hid hN
 clear hN
 have hR : recRight r = decide (se ≤ 1099511627776 ∧ n ≤ 900 ∧ (ki = 1 ∨ ki = 2 ∧ n = 0)) := by unfold recRight; rw [hk, hs, hl]
 rw [hR]
 clear hR hk hs hl
 by_cases k1 : ki = 1
 ·by_cases h9 : n ≤ 900
  ·by_cases hs : se ≤ 1099511627776
   ·have hR : decide (se ≤ 1099511627776 ∧ n ≤ 900 ∧ (ki = 1 ∨ ki = 2 ∧ n = 0)) = true := by simp; omega
    rw [hR]
    clear hR
    have h9' : (n : Int) ≤ 900 := by omega
    subst k1
    go_enter Tryz.func52, Tryz.ntmps52
    go_wp2_with fail
    go_ret
    exact ⟨rfl, HN.out _⟩
   ·have hR : decide (se ≤ 1099511627776 ∧ n ≤ 900 ∧ (ki = 1 ∨ ki = 2 ∧ n = 0)) = false := by simp; omega
    rw [hR]
    clear hR
    have h9' : (n : Int) ≤ 900 := by omega
    subst k1
    go_enter Tryz.func52, Tryz.ntmps52
    go_wp2_with fail
    go_ret
    exact ⟨rfl, HN.out _⟩
  ·have hR : decide (se ≤ 1099511627776 ∧ n ≤ 900 ∧ (ki = 1 ∨ ki = 2 ∧ n = 0)) = false := by simp; omega
   rw [hR]
   clear hR
   have h9' : ¬ (n : Int) ≤ 900 := by omega
   subst k1
   go_enter Tryz.func52, Tryz.ntmps52
   go_wp2_with fail
   go_ret
   exact ⟨rfl, HN.out _⟩
 ·have k1' : (ki == 1) = false := by simpa using k1
  by_cases k2 : ki = 2
  ·by_cases h0 : n = 0
   ·by_cases hs : se ≤ 1099511627776
    ·have hR : decide (se ≤ 1099511627776 ∧ n ≤ 900 ∧ (ki = 1 ∨ ki = 2 ∧ n = 0)) = true := by simp; omega
     rw [hR]
     clear hR
     subst h0
     subst k2
     go_enter Tryz.func52, Tryz.ntmps52
     go_wp2_with fail
     go_ret
     exact ⟨rfl, HN.out _⟩
    ·have hR : decide (se ≤ 1099511627776 ∧ n ≤ 900 ∧ (ki = 1 ∨ ki = 2 ∧ n = 0)) = false := by simp; omega
     rw [hR]
     clear hR
     subst h0
     subst k2
     go_enter Tryz.func52, Tryz.ntmps52
     go_wp2_with fail
     go_ret
     exact ⟨rfl, HN.out _⟩
   ·have hR : decide (se ≤ 1099511627776 ∧ n ≤ 900 ∧ (ki = 1 ∨ ki = 2 ∧ n = 0)) = false := by simp; omega
    rw [hR]
    clear hR
    have h0' : ((n : Int) == 0) = false := by simpa using h0
    subst k2
    go_enter Tryz.func52, Tryz.ntmps52
    go_wp2_with fail
    go_ret
    exact ⟨rfl, HN.out _⟩
  ·have hR : decide (se ≤ 1099511627776 ∧ n ≤ 900 ∧ (ki = 1 ∨ ki = 2 ∧ n = 0)) = false := by simp; omega
   rw [hR]
   clear hR
   have k2' : (ki == 2) = false := by simpa using k2
   go_enter Tryz.func52, Tryz.ntmps52
   go_wp2_with fail
   go_ret
   exact ⟨rfl, HN.out _⟩
set_option maxRecDepth 100000 in
theorem size16_any (ki se : Int) (A : Option Addr) (n c : Nat) (r : RecP) (w : World) (hk : r.kind = ki) (hs : r.seq = se) (hl : r.body.length = n) (hn : n ≤ 9223372036854775000) :
  Calls Tryz.prog 29 #[.agg #[.int .i64 ki, .int .u64 se, .slice A n c]] w fun e w' => e = .returned (.int .i64 (recSize r)) ∧ New w w' := by
 have hN : ∀ o, New w (w.alloc o) := fun o => (New.refl w).alloc o
 have HN := Lib.hid hN
 clear hN
 have hR := right16_any ki se A n c r
 have HR := Lib.hid hR
 clear hR
 have HK := Lib.hid hk
 have HS := Lib.hid hs
 have HL := Lib.hid hl
 clear hk hs hl
 by_cases hr : recRight r = true
 ·have hz : recSize r = 15 + n := by unfold recSize; rw [if_pos hr, HL.out]
  rw [hz]
  have HZ := Lib.hid hr
  clear hz hr
  go_enter Tryz.func29, Tryz.ntmps29
  go_wp2_with fail
  refine (HR.out _ HK.out HS.out HL.out (by omega)).mono ?_
  rintro e w1 ⟨rfl, hK1⟩
  have hb : w1.heap[w.heap.size]? = some (.cells #[.int .i64 ki, .int .u64 se, .slice A n c] 70 (0, 0)) := hK1.blockAt (heap_alloc_new w _) trivial
  have ck := cellOf hb (k := 2) rfl
  clear hb
  rw [HZ.out]
  go_wp2_with fail
  go_ret
  exact ⟨by go_num, (HN.out _).new hK1⟩
 ·have hr' : recRight r = false := by simpa using hr
  have hz : recSize r = 0 := by unfold recSize; rw [if_neg hr]
  rw [hz]
  have HZ := Lib.hid hr'
  clear hz hr hr'
  go_enter Tryz.func29, Tryz.ntmps29
  go_wp2_with fail
  refine (HR.out _ HK.out HS.out HL.out (by omega)).mono ?_
  rintro e w1 ⟨rfl, hK1⟩
  rw [HZ.out]
  go_wp2_with fail
  go_ret
  exact ⟨rfl, (HN.out _).new hK1⟩
set_option maxRecDepth 100000 in
set_option maxHeartbeats 1000000 in
theorem encode16_any (D : Nat → Prop) (A : Option Addr) (n c : Nat) (r : RecP) (w : World) (hB : Bs w D A n r.body) (hnc : n ≤ c) (hn : n ≤ 9223372036854775000) (hs0 : 0 ≤ r.seq) (hs1 : r.seq ≤ 18446744073709551615) :
  Calls Tryz.prog 79 #[.agg #[.int .i64 r.kind, .int .u64 r.seq, .slice A n c]] w (BytesRet (recEnc r) w) := by
 have hX := heap_alloc_new w (.cells #[.int .i64 r.kind, .int .u64 r.seq, .slice A n c] 70)
 have hN : New w (w.alloc (.cells #[.int .i64 r.kind, .int .u64 r.seq, .slice A n c] 70)) := (New.refl w).alloc _
 have HX := Lib.hid hX
 have HN := Lib.hid hN
 have HBd := Lib.hid hB
 have HE : Hid (recEnc r = (beI 1 r.kind ++ beI 8 r.seq ++ lenBytes r.body) ++ be4 (crcSum (beI 1 r.kind ++ beI 8 r.seq ++ lenBytes r.body))) := Lib.hid rfl
 have hl3 : (beI 1 r.kind ++ beI 8 r.seq ++ lenBytes r.body).length ≤ 1099511627776 := by simp only [List.length_append, beI_length, lenBytes_length]; omega
 rw [HE.out]
 clear hX hN hB HE
 obtain ⟨ki, se, body⟩ := r
 dsimp only at *
 generalize hlb : lenBytes body = lb at *
 have HLB := Lib.hid hlb
 clear hlb
 go_enter Tryz.func79, Tryz.ntmps79
 go_wp2_with fail
 generalize w.alloc _ = w1 at *
 have y0 : ∀ W, New w1 W → W.cell? ⟨w.heap.size, 0, none⟩ = some (.int .i64 ki) := fun W h => cellOf (h.blockAt HX.out trivial) rfl
 have y1 : ∀ W, New w1 W → W.cell? ⟨w.heap.size, 1, none⟩ = some (.int .u64 se) := fun W h => cellOf (h.blockAt HX.out trivial) rfl
 have y2 : ∀ W, New w1 W → W.cell? ⟨w.heap.size, 2, none⟩ = some (.slice A n c) := fun W h => cellOf (h.blockAt HX.out trivial) rfl
 refine hold_begin (by kernel_rfl) ?_
 have n0 : New w1 w1.drew := (New.refl w1).drew
 replace y0 := fun W (hW : New w1.drew W) => y0 W (Keep.new n0 hW)
 replace y1 := fun W (hW : New w1.drew W) => y1 W (Keep.new n0 hW)
 replace y2 := fun W (hW : New w1.drew W) => y2 W (Keep.new n0 hW)
 refine take1 0 ?_
 refine take1 1 ?_
 refine take1 3 ?_
 refine take1 4 ?_
 refine take1 6 ?_
 refine take1 7 ?_
 refine hold_step (i := 2) (by kernel_rfl) rfl rfl (fun K hK => ?_)
 go_simp
 refine (byte4_any (fun _ => True) none 0 0 [] ki _ (Row.nil _ _ _ _) (by decide)).mono ?_
 rintro e w2 ⟨⟨A2, c2, rfl, o2⟩, k2⟩
 go_wp2_with fail
 refine hK.out _ _ k2 ?_
 clear hK K
 try simp only [Act.put, ly1, ly2, ly3, ly4, ly5, ly6]
 replace n0 := Keep.new n0 k2
 replace y0 := fun W (hW : New w2 W) => y0 W (Keep.new k2 hW)
 replace y1 := fun W (hW : New w2 W) => y1 W (Keep.new k2 hW)
 replace y2 := fun W (hW : New w2 W) => y2 W (Keep.new k2 hW)
 refine hold_step (i := 5) (by kernel_rfl) rfl rfl (fun K hK => ?_)
 go_simp
 refine (long4_any _ A2 _ c2 _ se _ (Row.of_own o2) (by simp [beI_length]) hs0 hs1).mono ?_
 rintro e w3 ⟨⟨A3, c3, rfl, o3⟩, k3⟩
 go_wp2_with fail
 refine hK.out _ _ k3 ?_
 clear hK K
 try simp only [Act.put, ly1, ly2, ly3, ly4, ly5, ly6]
 replace n0 := Keep.new n0 k3
 replace y0 := fun W (hW : New w3 W) => y0 W (Keep.new k3 hW)
 replace y1 := fun W (hW : New w3 W) => y1 W (Keep.new k3 hW)
 replace y2 := fun W (hW : New w3 W) => y2 W (Keep.new k3 hW)
 refine hold_step (i := 8) (by kernel_rfl) rfl rfl (fun K hK => ?_)
 go_simp
 refine (bytes4_any _ _ A3 A _ c3 n c _ body _ (Row.of_own o3) (HBd.out.new (HN.out.new n0)) (by simp [beI_length]) (by omega) hnc).mono ?_
 rintro e w4 ⟨⟨A4, c4, rfl, o4⟩, k4⟩
 go_wp2_with fail
 refine hK.out _ _ k4 ?_
 clear hK K
 try simp only [Act.put, ly1, ly2, ly3, ly4, ly5, ly6]
 replace n0 := Keep.new n0 k4
 replace y0 := fun W (hW : New w4 W) => y0 W (Keep.new k4 hW)
 replace y1 := fun W (hW : New w4 W) => y1 W (Keep.new k4 hW)
 replace y2 := fun W (hW : New w4 W) => y2 W (Keep.new k4 hW)
 refine take1 9 ?_
 refine wpAnyH_done (by kernel_rfl) ?_ _
 rw [List.nil_append] at o4
 have hlen : (([] : List UInt8) ++ beI 1 ki ++ beI 8 se ++ lenBytes body).length = (beI 1 ki ++ beI 8 se ++ lb).length := by rw [HLB.out, List.nil_append]
 rw [HLB.out] at o4 ⊢
 clear y0 y1 y2 k2 k3 k4 o2 o3
 have hm : (beI 1 ki).length + ((beI 8 se).length + lb.length) = (beI 1 ki ++ beI 8 se ++ lb).length := by simp only [List.length_append]; omega
 rw [hm]
 clear hlen hm
 generalize beI 1 ki ++ beI 8 se ++ lb = bb at *
 have HL4 := Lib.hid (Row.of_own o4)
 have hw1 := HN.out.size
 have hK4 := HN.out.new n0
 generalize hL : bb.length = L at *
 have HLL := Lib.hid hL
 clear hL
 go_wp2_with fail
 refine (sum3_any _ A4 L c4 bb w4 HL4.out (by omega)).mono ?_
 rintro e w' ⟨rfl, rfl⟩
 go_wp2_with fail
 refine (sum4_any _ A4 L c4 bb (crcSum bb) w4 HL4.out hl3).mono ?_
 rintro e w5 ⟨⟨A5, c5, rfl, o5⟩, hK5⟩
 go_wp2_with fail
 go_ret
 exact BytesRet.mk' rfl (by have h := own_base o5 hK4.size; rw [List.length_append] at h; exact h) (hK4.new hK5)
end Go.Proofs.YtajnkbfcnmajoaaGreatDoor
