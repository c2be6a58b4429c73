/-
  PROVED HERE: what permafrostlaw17.head and read answer: true, for any bytes; conditions: lengths that a slice may have.
-/
import Derived.Test.YtpbbfbgmpidgnaaDoorPkS07
import Derived.Test.YtpbbfbgmpidgnaaDoorPkS11
import Derived.Test.YtpbbfbgmpidgnaaDoorPkS17
import Derived.Test.YtpbbfbgmpidgnaaDoorPkS27
import Derived.Test.YtpbbfbgmpidgnaaDoorPkS29
import Derived.Test.YtpbbfbgmpidgnaaDoorPkS30
namespace Go.Proofs.YtpbbfbgmpidgnaaDoor
open Go.RowKit

set_option maxRecDepth 100000 in
set_option maxHeartbeats 1000000 in
theorem headlaw_any (D1 D2 D3 D4 : Nat → Prop) (A1 A2 A3 A4 : Option Addr) (c1 c2 c3 c4 : Nat) (h : HeadP) (w : World) (b1 : Bs w D1 A1 h.prev.length h.prev) (b2 : Bs w D2 A2 h.root.length h.root) (b3 : Bs w D3 A3 h.prev.length h.prev) (b4 : Bs w D4 A4 h.root.length h.root) :
    Calls Tryd.prog 64 #[.agg #[.int .i64 h.index, .int .u64 h.first, .int .i64 h.count, .int .i64 h.bytes, .slice A1 h.prev.length c1, .slice A2 h.root.length c2], .agg #[.int .i64 h.index, .int .u64 h.first, .int .i64 h.count, .int .i64 h.bytes, .slice A3 h.prev.length c3, .slice A4 h.root.length c4]] w fun e w' => e = .returned (.bool true) ∧ New w w' := by
  have hN : New w ((w.alloc (.cells #[.int .i64 h.index, .int .u64 h.first, .int .i64 h.count, .int .i64 h.bytes, .slice A1 h.prev.length c1, .slice A2 h.root.length c2] 37)).alloc (.cells #[.int .i64 h.index, .int .u64 h.first, .int .i64 h.count, .int .i64 h.bytes, .slice A3 h.prev.length c3, .slice A4 h.root.length c4] 68)) := ((New.refl w).alloc _).alloc _
  have HN := Lib.hid hN
  have hX := ((New.refl (w.alloc (.cells #[.int .i64 h.index, .int .u64 h.first, .int .i64 h.count, .int .i64 h.bytes, .slice A1 h.prev.length c1, .slice A2 h.root.length c2] 37))).alloc (.cells #[.int .i64 h.index, .int .u64 h.first, .int .i64 h.count, .int .i64 h.bytes, .slice A3 h.prev.length c3, .slice A4 h.root.length c4] 68)).blockAt (heap_alloc_new w _) trivial
  have hY := heap_alloc_new (w.alloc (.cells #[.int .i64 h.index, .int .u64 h.first, .int .i64 h.count, .int .i64 h.bytes, .slice A1 h.prev.length c1, .slice A2 h.root.length c2] 37)) (.cells #[.int .i64 h.index, .int .u64 h.first, .int .i64 h.count, .int .i64 h.bytes, .slice A3 h.prev.length c3, .slice A4 h.root.length c4] 68)
  rw [show (w.alloc (.cells #[.int .i64 h.index, .int .u64 h.first, .int .i64 h.count, .int .i64 h.bytes, .slice A1 h.prev.length c1, .slice A2 h.root.length c2] 37)).heap.size = w.heap.size + 1 from by simp] at hY
  have k1 := run_str (c := c1) (b1.new hN)
  have k2 := run_str (c := c2) (b2.new hN)
  have k3 := run_str (c := c3) (b3.new hN)
  have k4 := run_str (c := c4) (b4.new hN)
  have x0 := cellOf hX (k := 0) rfl
  have x1 := cellOf hX (k := 1) rfl
  have x2 := cellOf hX (k := 2) rfl
  have x3 := cellOf hX (k := 3) rfl
  have x4 := cellOf hX (k := 4) rfl
  have x5 := cellOf hX (k := 5) rfl
  have y0 := cellOf hY (k := 0) rfl
  have y1 := cellOf hY (k := 1) rfl
  have y2 := cellOf hY (k := 2) rfl
  have y3 := cellOf hY (k := 3) rfl
  have y4 := cellOf hY (k := 4) rfl
  have y5 := cellOf hY (k := 5) rfl
  clear hN hX hY b1 b2 b3 b4
  go_enter Tryd.func64, Tryd.ntmps64
  go_wp2_with fail
  go_ret
  exact ⟨rfl, HN.out⟩
set_option maxRecDepth 100000 in
set_option maxHeartbeats 1000000 in
theorem readlaw_any (D : Nat → Prop) (A : Option Addr) (n c : Nat) (bs : List UInt8) (w : World) (hB : Bs w D A n bs) (hc : n ≤ c) (hc9 : c ≤ 9223372036854775807) :
    Calls Tryd.prog 27 #[.slice A n c] w fun e w' => e = .returned (.bool true) ∧ New w w' := by
  have HR := Lib.hid (read_any D A n c bs w hB hc hc9)
  have HR17 := Lib.hid (fun W (h : New w W) => read17_any D A n c bs W (hB.new h) hc hc9)
  have hf0 := (read_first bs).1
  have hf1 := (read_first bs).2
  clear hB
  generalize segRead bs = d at *
  obtain ⟨h, rs, why⟩ := d
  dsimp only at hf0 hf1
  go_enter Tryd.func27, Tryd.ntmps27
  go_wp2_with fail
  refine HR.out.mono ?_
  rintro e w1 ⟨⟨A1, c1, A2, c2, A3, c3, rfl, l1, l2, b1, b2, hr⟩, hK1⟩
  dsimp only at l1 l2 b1 b2 hr ⊢
  have hN1 : New w1 (w1.alloc (.cells #[.int .i64 h.index, .int .u64 h.first, .int .i64 h.count, .int .i64 h.bytes, .slice A1 h.prev.length c1, .slice A2 h.root.length c2] 37)) := (New.refl w1).alloc _
  have HX := Lib.hid (heap_alloc_new w1 (.cells #[.int .i64 h.index, .int .u64 h.first, .int .i64 h.count, .int .i64 h.bytes, .slice A1 h.prev.length c1, .slice A2 h.root.length c2] 37))
  have HR2 := Lib.hid (HR17.out _ (hK1.new hN1))
  have HB1 := Lib.hid (b1.new hN1)
  have HB2 := Lib.hid (b2.new hN1)
  have HRR := Lib.hid (hr.new hN1)
  have HK1 := Lib.hid (hK1.new hN1)
  clear b1 b2 hr hK1 hN1 HR HR17
  go_wp2_with fail
  generalize w1.alloc _ = w2 at *
  refine HR2.out.mono ?_
  rintro e w3 ⟨⟨A4, c4, A5, c5, A6, c6, rfl, l4, l5, b4, b5, gr⟩, hK3⟩
  dsimp only at l4 l5 b4 b5 gr ⊢
  have hN3 : New w3 (w3.alloc (.cells #[.int .i64 h.index, .int .u64 h.first, .int .i64 h.count, .int .i64 h.bytes, .slice A4 h.prev.length c4, .slice A5 h.root.length c5] 68)) := (New.refl w3).alloc _
  have HY := Lib.hid (heap_alloc_new w3 (.cells #[.int .i64 h.index, .int .u64 h.first, .int .i64 h.count, .int .i64 h.bytes, .slice A4 h.prev.length c4, .slice A5 h.root.length c5] 68))
  have hK23 := hK3.new hN3
  have HX3 := Lib.hid (hK23.blockAt HX.out trivial)
  have HB1 := Lib.hid (HB1.out.new hK23)
  have HB2 := Lib.hid (HB2.out.new hK23)
  have HB4 := Lib.hid (b4.new hN3)
  have HB5 := Lib.hid (b5.new hN3)
  have HRR := Lib.hid (HRR.out.new hK23)
  have HGR := Lib.hid (gr.new hN3)
  have HK3 := Lib.hid (HK1.out.new hK23)
  clear b4 b5 gr hK3 hN3 hK23 HX HR2 HK1
  have x0 := cellOf HX3.out (k := 0) rfl
  have x1 := cellOf HX3.out (k := 1) rfl
  have x2 := cellOf HX3.out (k := 2) rfl
  have x3 := cellOf HX3.out (k := 3) rfl
  have x4 := cellOf HX3.out (k := 4) rfl
  have x5 := cellOf HX3.out (k := 5) rfl
  have y0 := cellOf HY.out (k := 0) rfl
  have y1 := cellOf HY.out (k := 1) rfl
  have y2 := cellOf HY.out (k := 2) rfl
  have y3 := cellOf HY.out (k := 3) rfl
  have y4 := cellOf HY.out (k := 4) rfl
  have y5 := cellOf HY.out (k := 5) rfl
  go_wp2_with fail
  clear x0 x1 x2 x3 x4 x5 y0 y1 y2 y3 y4 y5
  generalize w3.alloc _ = w4 at *
  generalize w1.heap.size = g1 at *
  generalize w3.heap.size = g3 at *
  refine (headlaw_any _ _ _ _ A1 A2 A4 A5 c1 c2 c4 c5 h w4 HB1.out HB2.out HB4.out HB5.out).mono ?_
  rintro e w5 ⟨rfl, hK5⟩
  have HX5 := Lib.hid (hK5.blockAt HX3.out trivial)
  have HY5 := Lib.hid (hK5.blockAt HY.out trivial)
  have HB1 := Lib.hid (HB1.out.new hK5)
  have HB2 := Lib.hid (HB2.out.new hK5)
  have HB4 := Lib.hid (HB4.out.new hK5)
  have HB5 := Lib.hid (HB5.out.new hK5)
  have HRR := Lib.hid (HRR.out.new hK5)
  have HGR := Lib.hid (HGR.out.new hK5)
  have HK5 := Lib.hid (HK3.out.new hK5)
  clear hK5 HX3 HY HK3
  generalize hql : rs.length = q at *
  have HQL := Lib.hid hql
  have hq9 : q ≤ 9223372036854775807 := Nat.le_trans HRR.out.cap HRR.out.capMax
  clear hql
  go_wp2_with fail
  go_loopw [9] (fun i wx => ∃ k : Nat, k ≤ q ∧ i = .int .i64 (k : Int) ∧ New w5 wx) (fun i _ => q - (intOf i).toNat)
  case atStart => exact ⟨0, Nat.zero_le _, rfl, New.refl _⟩
  case round =>
    obtain ⟨k, hk, rfl, hK⟩ := hrel
    by_cases hlt : k < q
    · have hlk : k < rs.length := by have := HQL.out; omega
      obtain ⟨b1, o1, B1, d1, rfl, u0, u1, u2, hbs1⟩ := (HRR.out.new hK).at3 (k := k) hlk
      obtain ⟨b2, o2, B2, d2, rfl, v0, v1, v2, hbs2⟩ := (HGR.out.new hK).at3 (k := k) hlk
      have k1 : ∀ m, (convert 24 9 (.slice B1 rs[k].body.length d1)).run Tryd.prog (wr.drewN m) = .ok (.string (strOf rs[k].body)) (wr.drewN m) := fun m => run_str (hbs1.new ((New.refl wr).drewN m))
      have k2 : ∀ m, (convert 24 9 (.slice B2 rs[k].body.length d2)).run Tryd.prog (wr.drewN m) = .ok (.string (strOf rs[k].body)) (wr.drewN m) := fun m => run_str (hbs2.new ((New.refl wr).drewN m))
      clear hbs1 hbs2
      generalize rs[k] = r at *
      go_wp2_with fail
      go_quiet (fail)
      have hKq := hK.new ((New.refl wr).drewN nq)
      clear hK k1 k2 u0 u1 u2 v0 v1 v2
      generalize wr.drewN nq = wq at *
      go_wp2_with fail
      go_roundw
      case rel => exact ⟨k + 1, by omega, by go_num, hKq⟩
      case measure => simp [intOf]; omega
    · obtain rfl : k = q := by omega
      have HK := Lib.hid hK
      have y0 : ∀ W, New wr W → W.cell? ⟨g1, 0, none⟩ = some (.int .i64 h.index) := fun W q => cellOf ((hK.new q).blockAt HX5.out trivial) rfl
      have y1 : ∀ W, New wr W → W.cell? ⟨g1, 1, none⟩ = some (.int .u64 h.first) := fun W q => cellOf ((hK.new q).blockAt HX5.out trivial) rfl
      have y2 : ∀ W, New wr W → W.cell? ⟨g1, 2, none⟩ = some (.int .i64 h.count) := fun W q => cellOf ((hK.new q).blockAt HX5.out trivial) rfl
      have y3 : ∀ W, New wr W → W.cell? ⟨g1, 3, none⟩ = some (.int .i64 h.bytes) := fun W q => cellOf ((hK.new q).blockAt HX5.out trivial) rfl
      have y4 : ∀ W, New wr W → W.cell? ⟨g1, 4, none⟩ = some (.slice A1 h.prev.length c1) := fun W q => cellOf ((hK.new q).blockAt HX5.out trivial) rfl
      have y5 : ∀ W, New wr W → W.cell? ⟨g1, 5, none⟩ = some (.slice A2 h.root.length c2) := fun W q => cellOf ((hK.new q).blockAt HX5.out trivial) rfl
      have z0 : ∀ W, New wr W → W.cell? ⟨g3, 0, none⟩ = some (.int .i64 h.index) := fun W q => cellOf ((hK.new q).blockAt HY5.out trivial) rfl
      have z1 : ∀ W, New wr W → W.cell? ⟨g3, 1, none⟩ = some (.int .u64 h.first) := fun W q => cellOf ((hK.new q).blockAt HY5.out trivial) rfl
      have z2 : ∀ W, New wr W → W.cell? ⟨g3, 2, none⟩ = some (.int .i64 h.count) := fun W q => cellOf ((hK.new q).blockAt HY5.out trivial) rfl
      have z3 : ∀ W, New wr W → W.cell? ⟨g3, 3, none⟩ = some (.int .i64 h.bytes) := fun W q => cellOf ((hK.new q).blockAt HY5.out trivial) rfl
      have z4 : ∀ W, New wr W → W.cell? ⟨g3, 4, none⟩ = some (.slice A4 h.prev.length c4) := fun W q => cellOf ((hK.new q).blockAt HY5.out trivial) rfl
      have z5 : ∀ W, New wr W → W.cell? ⟨g3, 5, none⟩ = some (.slice A5 h.root.length c5) := fun W q => cellOf ((hK.new q).blockAt HY5.out trivial) rfl
      have HS := Lib.hid (fun W (q : New wr W) => seal_any _ _ A1 A2 h.prev.length c1 h.root.length c2 h W (HB1.out.new (hK.new q)) l1 (HB2.out.new (hK.new q)) l2 hf0 hf1)
      have HS17 := Lib.hid (fun W (q : New wr W) => seal17_any _ _ A4 A5 h.prev.length c4 h.root.length c5 h W (HB4.out.new (hK.new q)) l4 (HB5.out.new (hK.new q)) l5 hf0 hf1)
      have HV : Hid (∀ W b A15 c15, OwnB W b 5 A15 32 c15 (sealOf h) → ∀ W', New W W' → (convert 24 9 (.slice A15 32 c15)).run Tryd.prog W' = .ok (.string (strOf (sealOf h))) W') :=
        Lib.hid fun W b A15 c15 ho W' q => run_str (Row.of_own (Own.keepNew ho q))
      clear hK
      generalize sealOf h = sl at *
      go_wp2_with fail
      refine hold_begin (by kernel_rfl) ?_
      have n0 : New wr wr.drew := (New.refl wr).drew
      replace y0 := fun W (hW : New wr.drew W) => y0 W (Keep.new n0 hW)
      replace y1 := fun W (hW : New wr.drew W) => y1 W (Keep.new n0 hW)
      replace y2 := fun W (hW : New wr.drew W) => y2 W (Keep.new n0 hW)
      replace y3 := fun W (hW : New wr.drew W) => y3 W (Keep.new n0 hW)
      replace y4 := fun W (hW : New wr.drew W) => y4 W (Keep.new n0 hW)
      replace y5 := fun W (hW : New wr.drew W) => y5 W (Keep.new n0 hW)
      replace z0 := fun W (hW : New wr.drew W) => z0 W (Keep.new n0 hW)
      replace z1 := fun W (hW : New wr.drew W) => z1 W (Keep.new n0 hW)
      replace z2 := fun W (hW : New wr.drew W) => z2 W (Keep.new n0 hW)
      replace z3 := fun W (hW : New wr.drew W) => z3 W (Keep.new n0 hW)
      replace z4 := fun W (hW : New wr.drew W) => z4 W (Keep.new n0 hW)
      replace z5 := fun W (hW : New wr.drew W) => z5 W (Keep.new n0 hW)
      refine hold_read (i := 0) (v := ?_) rfl (by kernel_rfl) (by kernel_rfl) (by kernel_rfl) (fun _ _ _ h => h) rfl ?_ ?_
      rotate_left
      · intro w' hN
        go_simp
        try with_reducible rfl
      simp only [Act.put, List.getElem_toArray, List.getElem_cons_zero, List.setIfInBounds_toArray, List.set_cons_zero, List.set_cons_succ]
      refine hold_read (i := 3) (v := ?_) rfl (by kernel_rfl) (by kernel_rfl) (by kernel_rfl) (fun _ _ _ h => h) rfl ?_ ?_
      rotate_left
      · intro w' hN
        go_simp
        try with_reducible rfl
      simp only [Act.put, List.getElem_toArray, List.getElem_cons_succ, List.getElem_cons_zero, List.setIfInBounds_toArray, List.set_cons_zero, List.set_cons_succ]
      refine hold_step (i := 1) (by kernel_rfl) rfl rfl (fun K hK => ?_)
      go_simp
      refine (HS.out _ n0).mono ?_
      rintro e w8 ⟨⟨A8, c8, rfl, o8⟩, k8⟩; have v8 := HV.out w8 _ A8 c8 o8
      go_wp2_with fail
      refine hK.out _ _ k8 ?_
      clear hK K
      try simp only [Act.put, List.getElem_toArray, List.getElem_cons_succ, List.getElem_cons_zero, List.setIfInBounds_toArray, List.set_cons_zero, List.set_cons_succ]
      replace n0 := Keep.new n0 k8
      replace y0 := fun W (hW : New w8 W) => y0 W (Keep.new k8 hW)
      replace y1 := fun W (hW : New w8 W) => y1 W (Keep.new k8 hW)
      replace y2 := fun W (hW : New w8 W) => y2 W (Keep.new k8 hW)
      replace y3 := fun W (hW : New w8 W) => y3 W (Keep.new k8 hW)
      replace y4 := fun W (hW : New w8 W) => y4 W (Keep.new k8 hW)
      replace y5 := fun W (hW : New w8 W) => y5 W (Keep.new k8 hW)
      replace z0 := fun W (hW : New w8 W) => z0 W (Keep.new k8 hW)
      replace z1 := fun W (hW : New w8 W) => z1 W (Keep.new k8 hW)
      replace z2 := fun W (hW : New w8 W) => z2 W (Keep.new k8 hW)
      replace z3 := fun W (hW : New w8 W) => z3 W (Keep.new k8 hW)
      replace z4 := fun W (hW : New w8 W) => z4 W (Keep.new k8 hW)
      replace z5 := fun W (hW : New w8 W) => z5 W (Keep.new k8 hW)
      refine hold_read (i := 2) (v := ?_) rfl (by kernel_rfl) (by kernel_rfl) (by kernel_rfl) (fun _ _ _ h => h) rfl ?_ ?_
      rotate_left
      · intro w' hN
        go_simp
        try with_reducible rfl
      simp only [Act.put, List.getElem_toArray, List.getElem_cons_succ, List.getElem_cons_zero, List.setIfInBounds_toArray, List.set_cons_zero, List.set_cons_succ]
      refine hold_step (i := 4) (by kernel_rfl) rfl rfl (fun K hK => ?_)
      go_simp
      refine (HS17.out _ n0).mono ?_
      rintro e w9 ⟨⟨A9, c9, rfl, o9⟩, k9⟩; have v9 := HV.out w9 _ A9 c9 o9
      go_wp2_with fail
      refine hK.out _ _ k9 ?_
      clear hK K
      try simp only [Act.put, List.getElem_toArray, List.getElem_cons_succ, List.getElem_cons_zero, List.setIfInBounds_toArray, List.set_cons_zero, List.set_cons_succ]
      replace n0 := Keep.new n0 k9
      replace y0 := fun W (hW : New w9 W) => y0 W (Keep.new k9 hW)
      replace y1 := fun W (hW : New w9 W) => y1 W (Keep.new k9 hW)
      replace y2 := fun W (hW : New w9 W) => y2 W (Keep.new k9 hW)
      replace y3 := fun W (hW : New w9 W) => y3 W (Keep.new k9 hW)
      replace y4 := fun W (hW : New w9 W) => y4 W (Keep.new k9 hW)
      replace y5 := fun W (hW : New w9 W) => y5 W (Keep.new k9 hW)
      replace z0 := fun W (hW : New w9 W) => z0 W (Keep.new k9 hW)
      replace z1 := fun W (hW : New w9 W) => z1 W (Keep.new k9 hW)
      replace z2 := fun W (hW : New w9 W) => z2 W (Keep.new k9 hW)
      replace z3 := fun W (hW : New w9 W) => z3 W (Keep.new k9 hW)
      replace z4 := fun W (hW : New w9 W) => z4 W (Keep.new k9 hW)
      replace z5 := fun W (hW : New w9 W) => z5 W (Keep.new k9 hW)
      replace v8 := fun W (hW : New w9 W) => v8 W (Keep.new k9 hW)
      refine hold_read (i := 5) (v := ?_) rfl (by kernel_rfl) (by kernel_rfl) (by kernel_rfl) (fun _ _ _ h => h) rfl ?_ ?_
      rotate_left
      · intro w' hN
        go_simp
        try with_reducible rfl
      simp only [Act.put, List.getElem_toArray, List.getElem_cons_succ, List.getElem_cons_zero, List.setIfInBounds_toArray, List.set_cons_zero, List.set_cons_succ]
      refine hold_read (i := 6) (v := ?_) rfl (by kernel_rfl) (by kernel_rfl) (by kernel_rfl) (fun _ _ _ h => h) rfl ?_ ?_
      rotate_left
      · intro w' hN
        go_simp
        try with_reducible rfl
      simp only [Act.put, List.getElem_toArray, List.getElem_cons_succ, List.getElem_cons_zero, List.setIfInBounds_toArray, List.set_cons_zero, List.set_cons_succ]
      refine hold_read (i := 7) (v := ?_) rfl (by kernel_rfl) (by kernel_rfl) (by kernel_rfl) (fun _ _ _ h => h) rfl ?_ ?_
      rotate_left
      · intro w' hN
        go_simp
        try with_reducible rfl
      simp only [Act.put, List.getElem_toArray, List.getElem_cons_succ, List.getElem_cons_zero, List.setIfInBounds_toArray, List.set_cons_zero, List.set_cons_succ]
      refine wpAnyH_done (by kernel_rfl) ?_ _
      have hfin := (HK5.out.new HK.out).new n0
      clear y0 y1 y2 y3 y4 y5 z0 z1 z2 z3 z4 z5 v8 v9
      go_wp2_with fail
      go_ret
      exact ⟨rfl, hfin⟩
end Go.Proofs.YtpbbfbgmpidgnaaDoor
