/-
  PROVED HERE: texts that belong together, one behind the other; what each proves, and under which conditions, its own opening remark says: Ref17a, Seal17, Heads, Heads18, OwnHeads17, OwnHeads.
-/
import Derived.Test.YtfegdgaanmcecaaGreatDoorPkK00
import Derived.Test.YtfegdgaanmcecaaGreatDoorPkK07
import Derived.Test.YtfegdgaanmcecaaGreatDoorPkK09
import Derived.Test.YtfegdgaanmcecaaGreatDoorPkK24
import Derived.Test.YtfegdgaanmcecaaGreatDoorPkK25
import Derived.Test.YtfegdgaanmcecaaGreatDoorPkK26
/-
  PROVED HERE: what permafrostref17.Fits, Leaves and hash answer: what the program's do; conditions: lengths that a slice may have.
-/
namespace Go.Proofs.YtfegdgaanmcecaaGreatDoor
open Go.RowKit

set_option maxRecDepth 100000 in
set_option maxHeartbeats 2000000 in
theorem fits17_any (D : Nat → Prop) (A : Option Addr) (n c : Nat) (rs : List RecP) (w : World) (hB : Recs w D A n rs) (hn : n ≤ 9223372036854775807) :
    Calls Tryz.prog 80 #[.slice A n c] w fun e w' => e = .returned (.int .i64 (fitsIn 942 rs)) ∧ New w w' := by
  have hl := hB.len
  have HB := Lib.hid hB
  clear hB
  go_enter Tryz.func80, Tryz.ntmps80
  go_wp2_with fail
  go_loopw [3, 4] (fun s3 i wx => ∃ k left : Nat, k ≤ n ∧ left ≤ 942 ∧ i = .int .i64 (k : Int) ∧ s3 = .int .i64 ((942 - left : Nat) : Int) ∧ fitsIn 942 rs = k + fitsIn left (rs.drop k) ∧ New w wx) (fun _ i _ => n - (intOf i).toNat)
  case atStart => exact ⟨0, 942, Nat.zero_le _, Nat.le_refl _, rfl, rfl, by simp, New.refl _⟩
  case round =>
    obtain ⟨k, left, hk, hlf, rfl, rfl, hf, hK⟩ := hrel
    have HF := Lib.hid hf
    clear hf
    by_cases hlt : k < n
    · obtain ⟨b, off, A', c', rfl, h1, h2, h3, hc', hb, hs0, hs1, hc9⟩ := (HB.out.new hK).at_ (k := k) (by omega)
      have HST := Lib.hid (fits_step left k rs (by omega))
      have HSP := Lib.hid (fits_stop left k rs (by omega))
      generalize rs[k]'_ = r at *
      have HS := Lib.hid (fun w' => size16_any r.kind r.seq A' r.body.length c' r w' rfl rfl rfl (by omega))
      have HZ0 : Hid (recSize r = 0 ↔ recRight r = false) := Lib.hid (by
        unfold recSize
        by_cases h : recRight r = true
        · rw [if_pos h]; simp [h]
        · rw [if_neg h]; simpa using h)
      clear hb hc' hs0 hs1
      go_wp2_with fail
      refine (HS.out _).mono ?_
      rintro e w1 ⟨rfl, hK1⟩
      have hK01 := hK.new hK1
      clear hK hK1 h1 h2 h3 HS
      have q1 : IntKind.i64.wrap (942 - ((942 - left : Nat) : Int)) = (left : Int) := by rw [IntWalk.i64_in _ (by omega)]; omega
      by_cases hz : recSize r = 0
      · have hz' : ((recSize r : Int) == 0) = true := by rw [hz]; rfl
        have hr : recRight r = false := HZ0.out.1 hz
        have HZ := Lib.hid (HSP.out (fun h => by rw [hr] at h; exact absurd h.1 (by decide)))
        clear hz
        go_wp2_with fail
        go_ret
        exact ⟨by rw [HF.out, HZ.out]; rfl, hK01⟩
      · have hz' : ((recSize r : Int) == 0) = false := by simpa using hz
        have hr : recRight r = true := by
          by_cases h : recRight r = true
          · exact h
          · exact absurd (HZ0.out.2 (by simpa using h)) hz
        have HR := Lib.hid hr
        clear hr hz
        by_cases hsz : recSize r ≤ left
        · have hsz' : ¬ ((left : Int) < recSize r) := by omega
          have q2 : IntKind.i64.wrap (((942 - left : Nat) : Int) + (recSize r : Int)) = ((942 - (left - recSize r) : Nat) : Int) := by rw [IntWalk.i64_in _ (by omega)]; omega
          go_wp2_with fail
          go_roundw
          case rel => exact ⟨k + 1, left - recSize r, by omega, by omega, by go_num, by first | rfl | go_num, by have h := HF.out; rw [HST.out HR.out hsz] at h; omega, hK01⟩
          case measure => simp [intOf]; omega
        · have hsz' : (left : Int) < recSize r := by omega
          have HZ := Lib.hid (HSP.out (fun h => hsz h.2))
          clear hsz
          go_wp2_with fail
          go_ret
          exact ⟨by rw [HF.out, HZ.out]; rfl, hK01⟩
    · obtain rfl : k = n := by omega
      rw [List.drop_eq_nil_of_le (by omega)] at HF
      have hl' : fitsIn left [] = 0 := rfl
      have HL' := Lib.hid hl'
      clear hl' hl
      go_wp2_with fail
      go_ret
      exact ⟨by rw [HF.out, HL'.out]; rfl, hK⟩
set_option maxRecDepth 100000 in
set_option maxHeartbeats 2000000 in
theorem leaves17_any (D : Nat → Prop) (A : Option Addr) (n c : Nat) (rs : List RecP) (w : World) (hB : Recs w D A n rs) (hn : n ≤ 1099511620000) :
    Calls Tryz.prog 50 #[.slice A n c] w fun e w' => (∃ A' c', e = .returned (.slice A' n c') ∧ OwnBss w' w.heap.size (fun b => w.heap.size ≤ b) A' n c' (leavesOf rs)) ∧ New w w' := by
  have hl := hB.len
  have HB := Lib.hid hB
  clear hB
  go_enter Tryz.func50, Tryz.ntmps50
  go_wp2_with fail
  go_loopw [3, 4] (fun s3 i wx => ∃ (k : Nat) (A' : Option Addr) (c' : Nat), k ≤ n ∧ i = .int .i64 (k : Int) ∧ s3 = .slice A' k c' ∧ OwnBss wx w.heap.size (fun b => w.heap.size ≤ b) A' k c' (leavesOf (rs.take k)) ∧ New w wx) (fun _ i _ => n - (intOf i).toNat)
  case atStart => exact ⟨0, none, 0, Nat.zero_le _, rfl, rfl, OwnBss.nil _ _ _, New.refl _⟩
  case round =>
    obtain ⟨k, A1, c1, hk, rfl, rfl, hown, hK⟩ := hrel
    by_cases hlt : k < n
    · obtain ⟨b, off, A', c', rfl, h1, h2, h3, hc', hb, hs0, hs1, hc9⟩ := (HB.out.new hK).at_ (k := k) (by omega)
      have HLT := Lib.hid (leaves_take rs k (by omega))
      generalize rs[k]'_ = r at *
      have HRI := Lib.hid (fun W => right16_any r.kind r.seq A' r.body.length c' r W rfl rfl rfl (by omega))
      have HE := Lib.hid (fun W hW => encode16_any D A' r.body.length c' r W (hb.new hW) hc' (by omega) hs0 hs1)
      have H1 := Lib.hid h1
      have H2 := Lib.hid h2
      have H3 := Lib.hid h3
      clear hb hc' hs0 hs1
      go_wp2_with fail
      refine (HRI.out wr).mono ?_
      rintro e w0 ⟨rfl, hK0⟩
      have g1 := hK0.cell_some H1.out trivial
      have g2 := hK0.cell_some H2.out trivial
      have g3 := hK0.cell_some H3.out trivial
      have hown0 := hown.new hK0
      have hK00 := hK.new hK0
      have HK0 := Lib.hid hK0
      clear h1 h2 h3 hown hK hK0 HRI
      by_cases hr : recRight r = true
      · rw [if_pos hr] at HLT
        rw [hr]
        clear hr
        go_wp2_with fail
        refine (HE.out w0 HK0.out).mono ?_
        rintro e w1 ⟨⟨A2, c2, rfl, hown2⟩, hK1⟩
        have hown1 := hown0.new hK1
        have hK01 := hK00.new hK1
        have hge : w.heap.size ≤ w0.heap.size := hK00.size
        have hy := (Row.imp (hown1.apart hown2) (E := fun b => w.heap.size ≤ b ∧ some b ≠ blk A1) (fun b _ h => ⟨Nat.le_trans hge h.1, h.2⟩)).alloc (.cells #[.slice A2 (recEnc r).length c2] 31)
        have hmc := own_cap hown2
        have hown1' := hown1.new ((New.refl w1).alloc (.cells #[.slice A2 (recEnc r).length c2] 31))
        have hrow := row_one w1 31 (.slice A2 (recEnc r).length c2)
        have hbd : k + 1 ≤ 1099511627776 := by omega
        have hsz : w.heap.size ≤ (w1.alloc (.cells #[.slice A2 (recEnc r).length c2] 31)).heap.size := (hK01.alloc _).size
        clear hown0 hK00 hK1 g1 g2 g3 HE hown2 hge
        go_wp2_with (at_builtin; refine app_bss _ rfl _ _ rfl w.heap.size (fun b => w.heap.size ≤ b) A1 k c1 _ rfl hown1' (fun g => w1.heap.size ≤ g) _ 1 A2 _ c2 _ rfl hrow hy hmc hbd hsz ?_; intro A3 c3 w3 hown3 hg3 hbk3)
        have hK3 := (hK01.alloc (.cells #[.slice A2 (recEnc r).length c2] 31)).grown hg3 (fun k hk _ => (hown1.lt k hk).1)
        clear hown1 hown1' hrow hy hmc hg3 hbk3 hK01 hsz
        go_roundw
        case rel => exact ⟨k + 1, _, _, by omega, by go_num, rfl, by rw [HLT.out]; exact hown3, hK3⟩
        case measure => simp [intOf]; omega
      · have hr' : recRight r = false := by simpa using hr
        rw [if_neg hr] at HLT
        rw [hr']
        clear hr hr'
        have hy : Bs (w0.alloc (.cells #[.slice none 0 0] 31)) (fun b => w.heap.size ≤ b ∧ some b ≠ blk A1) none 0 [] := Row.nil _ _ _ _
        have hown1' := hown0.new ((New.refl w0).alloc (.cells #[.slice none 0 0] 31))
        have hrow := row_one w0 31 (.slice none 0 0)
        have hbd : k + 1 ≤ 1099511627776 := by omega
        have hsz : w.heap.size ≤ (w0.alloc (.cells #[.slice none 0 0] 31)).heap.size := (hK00.alloc _).size
        clear g1 g2 g3 HE
        go_wp2_with (at_builtin; refine app_bss _ rfl _ _ rfl w.heap.size (fun b => w.heap.size ≤ b) A1 k c1 _ rfl hown1' (fun g => w0.heap.size ≤ g) _ 1 none _ 0 _ rfl hrow hy (Nat.le_refl _) hbd hsz ?_; intro A3 c3 w3 hown3 hg3 hbk3)
        have hK3 := (hK00.alloc (.cells #[.slice none 0 0] 31)).grown hg3 (fun k hk _ => (hown0.lt k hk).1)
        clear hown0 hown1' hrow hy hg3 hbk3 hK00 hsz
        go_roundw
        case rel => exact ⟨k + 1, _, _, by omega, by go_num, rfl, by rw [HLT.out]; exact hown3, hK3⟩
        case measure => simp [intOf]; omega
    · obtain rfl : k = n := by omega
      rw [List.take_of_length_le (by omega)] at hown
      go_wp2_with fail
      go_ret
      exact ⟨⟨_, _, rfl, hown⟩, hK⟩
set_option maxRecDepth 100000 in
theorem hash17_any (D : Nat → Prop) (A : Option Addr) (n c : Nat) (bs : List UInt8) (w : World) (hB : Bs w D A n bs) (hnc : n ≤ c) :
    Calls Tryz.prog 103 #[.slice A n c] w fun e w' => (∃ A' c', e = .returned (.slice A' 32 c') ∧ 32 ≤ c' ∧ Bs w' (fun b => D b ∨ w.heap.size ≤ b) A' 32 (whole32 bs)) ∧ New w w' := by
  have hl := hB.len
  by_cases h32 : n = 32
  · subst h32
    have hw : whole32 bs = bs := by unfold whole32; rw [if_pos hl]
    rw [hw]
    clear hl hw
    go_enter Tryz.func103, Tryz.ntmps103
    go_wp2_with fail
    go_ret
    exact ⟨⟨_, _, rfl, hnc, hB.imp (fun _ _ h => .inl h)⟩, New.refl _⟩
  · have hw : whole32 bs = List.replicate 32 0 := by unfold whole32; rw [if_neg (by omega)]
    have hne : ((n : Int) != 32) = true := by rw [bne_iff_ne]; omega
    have hmk : ∀ w, (Instr.makeSlice 31 (.int .i64 32) (.int .i64 32)).run Tryz.prog w = .ok (.slice (some ⟨w.heap.size, 0, none⟩) 32 32) (w.alloc (.cells (List.replicate 32 (Value.int .u8 0)).toArray 5)) := fun _ => by kernel_rfl
    rw [hw]
    clear hl hw
    go_enter Tryz.func103, Tryz.ntmps103
    go_wp2_with fail
    clear hmk
    go_ret
    exact ⟨⟨_, _, rfl, Nat.le_refl _, (Row.made w _ _ 32 1 rfl).imp (fun _ _ h => .inr h)⟩, (New.refl _).alloc _⟩
end Go.Proofs.YtfegdgaanmcecaaGreatDoor
/-
  PROVED HERE: what permafrostref17.Seal answers: what segment.Seal does; conditions: lengths that a slice may have.
-/
namespace Go.Proofs.YtfegdgaanmcecaaGreatDoor
open Go.RowKit

set_option maxRecDepth 100000 in
set_option maxHeartbeats 2000000 in
theorem seal17_any (D D2 : Nat → Prop) (A A2 : Option Addr) (n c n2 c2 : Nat) (h : HeadP) (w : World) (hB : Bs w D A n h.prev) (hnc : n ≤ c) (hB2 : Bs w D2 A2 n2 h.root) (hnc2 : n2 ≤ c2) (hf0 : 0 ≤ h.first) (hf1 : h.first ≤ 18446744073709551615) :
    Calls Tryz.prog 43 #[.agg #[.int .i64 h.index, .int .u64 h.first, .int .i64 h.count, .int .i64 h.bytes, .slice A n c, .slice A2 n2 c2]] w fun e w' =>
      (∃ A' c', e = .returned (.slice A' 32 c') ∧ OwnB w' w.heap.size 5 A' 32 c' (sealOf h)) ∧ New w w' := by
  rcases h with ⟨ix, fi, co, by', pr, ro⟩
  dsimp only at hB hB2 hf0 hf1 ⊢
  have HX := Lib.hid (heap_alloc_new w (.cells #[.int .i64 ix, .int .u64 fi, .int .i64 co, .int .i64 by', .slice A n c, .slice A2 n2 c2] 40))
  have HN := Lib.hid (show New w (w.alloc (.cells #[.int .i64 ix, .int .u64 fi, .int .i64 co, .int .i64 by', .slice A n c, .slice A2 n2 c2] 40)) from (New.refl w).alloc _)
  have HS : Hid (sealOf ⟨ix, fi, co, by', pr, ro⟩ = shaSum ((((([2] ++ beI 2 ix) ++ beI 8 fi) ++ beI 2 co) ++ whole32 pr) ++ whole32 ro)) := Lib.hid (by
    unfold sealOf sealRow
    rw [show beI 1 2 = [2] from rfl])
  have HB := Lib.hid (hB.imp (E := fun b => b < w.heap.size) (fun b hb _ => hb))
  have HB2 := Lib.hid (hB2.imp (E := fun b => b < w.heap.size) (fun b hb _ => hb))
  obtain ⟨S, hS⟩ : ∃ S, S = shaSum ((((([2] ++ beI 2 ix) ++ beI 8 fi) ++ beI 2 co) ++ whole32 pr) ++ whole32 ro) := ⟨_, rfl⟩
  rw [HS.out, ← hS]
  have HSS := Lib.hid hS
  clear hB hB2 HS hS
  have hgw : w.heap.size < (w.alloc (.cells #[.int .i64 ix, .int .u64 fi, .int .i64 co, .int .i64 by', .slice A n c, .slice A2 n2 c2] 40)).heap.size := by simp
  go_enter Tryz.func43, Tryz.ntmps43
  go_wp2_with fail
  generalize w.alloc _ = w0 at *
  have y0 : ∀ W, New w0 W → W.cell? ⟨w.heap.size, 0, none⟩ = some (.int .i64 ix) := fun W h => cellOf (h.blockAt HX.out trivial) rfl
  have y1 : ∀ W, New w0 W → W.cell? ⟨w.heap.size, 1, none⟩ = some (.int .u64 fi) := fun W h => cellOf (h.blockAt HX.out trivial) rfl
  have y2 : ∀ W, New w0 W → W.cell? ⟨w.heap.size, 2, none⟩ = some (.int .i64 co) := fun W h => cellOf (h.blockAt HX.out trivial) rfl
  have hlit := bs_one w0.drew 5 2 _ rfl
  have hk0 : New w0.drew (w0.drew.alloc (.cells #[.int .u8 2] 5)) := (New.refl _).alloc _
  refine hold_begin (by kernel_rfl) ?_
  have n0 : New w0.drew w0.drew := New.refl _
  replace y0 := fun W (hW : New w0.drew W) => y0 W (Keep.new (Keep.drew (New.refl w0)) hW)
  replace y1 := fun W (hW : New w0.drew W) => y1 W (Keep.new (Keep.drew (New.refl w0)) hW)
  replace y2 := fun W (hW : New w0.drew W) => y2 W (Keep.new (Keep.drew (New.refl w0)) hW)
  refine hold_read0 (i := 1) (v := ?_) n0 rfl (by kernel_rfl) (by kernel_rfl) (by kernel_rfl) (fun _ _ _ h => h) rfl ?_ ?_
  rotate_left
  · intro w' hN
    go_simp
    try with_reducible rfl
  simp only [Act.put, List.getElem_toArray, List.getElem_cons_succ, List.getElem_cons_zero, List.setIfInBounds_toArray, List.set_cons_zero, List.set_cons_succ]
  refine hold_read0 (i := 2) (v := ?_) n0 rfl (by kernel_rfl) (by kernel_rfl) (by kernel_rfl) (fun _ _ _ h => h) rfl ?_ ?_
  rotate_left
  · intro w' hN
    go_simp
    try with_reducible rfl
  simp only [Act.put, List.getElem_toArray, List.getElem_cons_succ, List.getElem_cons_zero, List.setIfInBounds_toArray, List.set_cons_zero, List.set_cons_succ]
  refine hold_read0 (i := 4) (v := ?_) n0 rfl (by kernel_rfl) (by kernel_rfl) (by kernel_rfl) (fun _ _ _ h => h) rfl ?_ ?_
  rotate_left
  · intro w' hN
    go_simp
    try with_reducible rfl
  simp only [Act.put, List.getElem_toArray, List.getElem_cons_succ, List.getElem_cons_zero, List.setIfInBounds_toArray, List.set_cons_zero, List.set_cons_succ]
  refine hold_read0 (i := 5) (v := ?_) n0 rfl (by kernel_rfl) (by kernel_rfl) (by kernel_rfl) (fun _ _ _ h => h) rfl ?_ ?_
  rotate_left
  · intro w' hN
    go_simp
    try with_reducible rfl
  simp only [Act.put, List.getElem_toArray, List.getElem_cons_succ, List.getElem_cons_zero, List.setIfInBounds_toArray, List.set_cons_zero, List.set_cons_succ]
  refine hold_read0 (i := 7) (v := ?_) n0 rfl (by kernel_rfl) (by kernel_rfl) (by kernel_rfl) (fun _ _ _ h => h) rfl ?_ ?_
  rotate_left
  · intro w' hN
    go_simp
    try with_reducible rfl
  simp only [Act.put, List.getElem_toArray, List.getElem_cons_succ, List.getElem_cons_zero, List.setIfInBounds_toArray, List.set_cons_zero, List.set_cons_succ]
  refine hold_read0 (i := 8) (v := ?_) n0 rfl (by kernel_rfl) (by kernel_rfl) (by kernel_rfl) (fun _ _ _ h => h) rfl ?_ ?_
  rotate_left
  · intro w' hN
    go_simp
    try with_reducible rfl
  simp only [Act.put, List.getElem_toArray, List.getElem_cons_succ, List.getElem_cons_zero, List.setIfInBounds_toArray, List.set_cons_zero, List.set_cons_succ]
  refine hold_step0 (i := 0) (by kernel_rfl) rfl rfl (fun K hK => ?_)
  go_simp
  go_wp2_with fail
  have n1 := Keep.new n0 hk0
  refine hK.out _ _ n1 ?_
  clear hK K
  try simp only [Act.put, List.getElem_toArray, List.getElem_cons_succ, List.getElem_cons_zero, List.setIfInBounds_toArray, List.set_cons_zero, List.set_cons_succ]
  replace n0 := n1
  clear n1
  refine hold_step0 (i := 3) (by kernel_rfl) rfl rfl (fun K hK => ?_)
  go_simp
  refine (short4_any _ _ 1 1 [2] ix _ hlit (by decide)).mono ?_
  rintro e w2 ⟨⟨A2', c2', rfl, o2⟩, k2⟩
  go_wp2_with fail
  have n1 := Keep.new n0 k2
  refine hK.out _ _ n1 ?_
  clear hK K
  try simp only [Act.put, List.getElem_toArray, List.getElem_cons_succ, List.getElem_cons_zero, List.setIfInBounds_toArray, List.set_cons_zero, List.set_cons_succ]
  replace n0 := n1
  clear n1
  refine hold_step0 (i := 6) (by kernel_rfl) rfl rfl (fun K hK => ?_)
  go_simp
  refine (long4_any _ A2' _ c2' _ fi _ (Row.of_own o2) (by simp [beI_length]) hf0 hf1).mono ?_
  rintro e w3 ⟨⟨A3, c3, rfl, o3⟩, k3⟩
  go_wp2_with fail
  have n1 := Keep.new n0 k3
  refine hK.out _ _ n1 ?_
  clear hK K
  try simp only [Act.put, List.getElem_toArray, List.getElem_cons_succ, List.getElem_cons_zero, List.setIfInBounds_toArray, List.set_cons_zero, List.set_cons_succ]
  replace n0 := n1
  clear n1
  refine hold_step0 (i := 9) (by kernel_rfl) rfl rfl (fun K hK => ?_)
  go_simp
  refine (short4_any _ A3 _ c3 _ co _ (Row.of_own o3) (by simp [beI_length])).mono ?_
  rintro e w4 ⟨⟨A4, c4, rfl, o4⟩, k4⟩
  go_wp2_with fail
  have n1 := Keep.new n0 k4
  refine hK.out _ _ n1 ?_
  clear hK K
  try simp only [Act.put, List.getElem_toArray, List.getElem_cons_succ, List.getElem_cons_zero, List.setIfInBounds_toArray, List.set_cons_zero, List.set_cons_succ]
  replace n0 := n1
  clear n1
  refine hold_read0 (i := 10) (v := ?_) n0 rfl (by kernel_rfl) (by kernel_rfl) (by kernel_rfl) (fun _ _ _ h => h) rfl ?_ ?_
  rotate_left
  · intro w' hN
    go_simp
    try with_reducible rfl
  simp only [Act.put, List.getElem_toArray, List.getElem_cons_succ, List.getElem_cons_zero, List.setIfInBounds_toArray, List.set_cons_zero, List.set_cons_succ]
  refine wpAnyH_done (by kernel_rfl) ?_ _
  have hm : (beI 2 ix).length + ((beI 8 fi).length + (beI 2 co).length) + 1 = 13 := by simp [beI_length]
  have hm2 : ([2] ++ beI 2 ix ++ beI 8 fi ++ beI 2 co).length = 13 := by simp [beI_length]
  rw [hm]
  rw [hm2] at o4
  have hK04 : New w0 w4 := Keep.new (Keep.drew (New.refl w0)) n0
  have hg3 : w0.heap.size ≤ w3.heap.size := Nat.le_trans (Nat.le_trans (show w0.heap.size ≤ (w0.drew.alloc (.cells #[byteVal 2] 5)).heap.size from hk0.size) k2.size) k3.size
  have O4 := Lib.hid (own_base (base := w0.heap.size) o4 hg3)
  have HX4 := Lib.hid (hK04.blockAt HX.out trivial)
  have HB4 := Lib.hid (HB.out.new (HN.out.new hK04))
  have HB24 := Lib.hid (HB2.out.new (HN.out.new hK04))
  have hK4 := HN.out.new hK04
  clear hm hm2 y0 y1 y2 hlit hk0 k2 k3 k4 o2 o3 o4 n0 HX HB HB2 hK04 hg3
  generalize [2] ++ beI 2 ix ++ beI 8 fi ++ beI 2 co = hd13 at *
  generalize hgb : w0.heap.size = gb at *
  go_wp2_with fail
  have y4 : ∀ W, Keep (Lo gb) w4.drew W → W.cell? ⟨w.heap.size, 4, none⟩ = some (.slice A n c) := fun W h => h.cell_some (a := w4.drew) (show w4.cell? _ = _ from cellOf HX4.out rfl) (by show w.heap.size < gb; omega)
  have y5 : ∀ W, Keep (Lo gb) w4.drew W → W.cell? ⟨w.heap.size, 5, none⟩ = some (.slice A2 n2 c2) := fun W h => h.cell_some (a := w4.drew) (show w4.cell? _ = _ from cellOf HX4.out rfl) (by show w.heap.size < gb; omega)
  have HH1 : Hid (∀ W, Keep (Lo gb) w4.drew W → Calls Tryz.prog 103 #[.slice A n c] W fun e w' => (∃ A' c', e = .returned (.slice A' 32 c') ∧ 32 ≤ c' ∧ Bs w' (fun b => b < w.heap.size ∨ W.heap.size ≤ b) A' 32 (whole32 pr)) ∧ New W w') :=
    Lib.hid fun W h => hash17_any _ A n c pr W (Row.keep (w := w4.drew) HB4.out h (fun b _ hb => by show b < gb; omega)) hnc
  have HH2 : Hid (∀ W, Keep (Lo gb) w4.drew W → Calls Tryz.prog 103 #[.slice A2 n2 c2] W fun e w' => (∃ A' c', e = .returned (.slice A' 32 c') ∧ 32 ≤ c' ∧ Bs w' (fun b => b < w.heap.size ∨ W.heap.size ≤ b) A' 32 (whole32 ro)) ∧ New W w') :=
    Lib.hid fun W h => hash17_any _ A2 n2 c2 ro W (Row.keep (w := w4.drew) HB24.out h (fun b _ hb => by show b < gb; omega)) hnc2
  have hgw4 : gb ≤ w4.heap.size := by
    have h1 := (own_base (base := gb) O4.out (Nat.le_refl _)).form (by decide)
    obtain ⟨g, cp, _, h2, h3⟩ := h1
    omega
  refine hold_beginS (Keep (Lo gb) w4.drew) (by kernel_rfl) ?_
  have n0 : Keep (Lo gb) w4.drew w4.drew := Keep.refl _ _
  refine hold_read0 (i := 0) (v := ?_) n0 rfl (by kernel_rfl) (by kernel_rfl) (by kernel_rfl) (fun _ _ _ h => h) rfl ?_ ?_
  rotate_left
  · intro w' hN
    go_simp
    try with_reducible rfl
  simp only [Act.put, List.getElem_toArray, List.getElem_cons_zero, List.setIfInBounds_toArray, List.set_cons_zero, List.set_cons_succ]
  refine hold_read0 (i := 1) (v := ?_) n0 rfl (by kernel_rfl) (by kernel_rfl) (by kernel_rfl) (fun _ _ _ h => h) rfl ?_ ?_
  rotate_left
  · intro w' hN
    go_simp
    try with_reducible rfl
  simp only [Act.put, List.getElem_toArray, List.getElem_cons_succ, List.getElem_cons_zero, List.setIfInBounds_toArray, List.set_cons_zero, List.set_cons_succ]
  refine hold_read0 (i := 2) (v := ?_) n0 rfl (by kernel_rfl) (by kernel_rfl) (by kernel_rfl) (fun _ _ _ h => h) rfl ?_ ?_
  rotate_left
  · intro w' hN
    go_simp
    try with_reducible rfl
  simp only [Act.put, List.getElem_toArray, List.getElem_cons_succ, List.getElem_cons_zero, List.setIfInBounds_toArray, List.set_cons_zero, List.set_cons_succ]
  refine hold_read0 (i := 5) (v := ?_) n0 rfl (by kernel_rfl) (by kernel_rfl) (by kernel_rfl) (fun _ _ _ h => h) rfl ?_ ?_
  rotate_left
  · intro w' hN
    go_simp
    try with_reducible rfl
  simp only [Act.put, List.getElem_toArray, List.getElem_cons_succ, List.getElem_cons_zero, List.setIfInBounds_toArray, List.set_cons_zero, List.set_cons_succ]
  refine hold_read0 (i := 6) (v := ?_) n0 rfl (by kernel_rfl) (by kernel_rfl) (by kernel_rfl) (fun _ _ _ h => h) rfl ?_ ?_
  rotate_left
  · intro w' hN
    go_simp
    try with_reducible rfl
  simp only [Act.put, List.getElem_toArray, List.getElem_cons_succ, List.getElem_cons_zero, List.setIfInBounds_toArray, List.set_cons_zero, List.set_cons_succ]
  refine hold_step0 (i := 3) (by kernel_rfl) rfl rfl (fun K hK => ?_)
  go_simp
  refine (HH1.out _ n0).mono ?_
  rintro e w5 ⟨⟨A5, c5, rfl, hc5, hb5⟩, k5⟩; have o5 := Own.keepNew (w := w4) O4.out (Keep.new (Keep.drew (New.refl w4)) k5); have hz5 : gb ≤ w5.heap.size := Nat.le_trans hgw4 k5.size
  go_wp2_with fail
  have n1 := Keep.new n0 k5
  refine hK.out _ _ n1 ?_
  clear hK K
  try simp only [Act.put, List.getElem_toArray, List.getElem_cons_succ, List.getElem_cons_zero, List.setIfInBounds_toArray, List.set_cons_zero, List.set_cons_succ]
  replace n0 := n1
  clear n1
  refine hold_step0 (i := 4) (by kernel_rfl) rfl rfl (fun K hK => ?_)
  refine wp_bytes _ _ _ rfl gb A4 13 c4 _ rfl o5 _ A5 32 c5 _ rfl hb5 (by decide) hz5 ?_
  intro A6 c6 w6 o6 hg6 hbk6; have hz6 : gb ≤ w6.heap.size := Nat.le_trans hz5 hg6.size
  have n1 := n0.grown hg6 (fun k hk hd => absurd hd (by have := (own_lt o5 k hk).1; show ¬ k < gb; omega))
  refine hK.out _ _ n1 ?_
  clear hK K
  try simp only [Act.put, List.getElem_toArray, List.getElem_cons_succ, List.getElem_cons_zero, List.setIfInBounds_toArray, List.set_cons_zero, List.set_cons_succ]
  replace n0 := n1
  clear n1
  refine hold_step0 (i := 7) (by kernel_rfl) rfl rfl (fun K hK => ?_)
  go_simp
  refine (HH2.out _ n0).mono ?_
  rintro e w7 ⟨⟨A7, c7, rfl, hc7, hb7⟩, k7⟩; have o7 := Own.keepNew o6 k7; have hz7 : gb ≤ w7.heap.size := Nat.le_trans hz6 k7.size
  go_wp2_with fail
  have n1 := Keep.new n0 k7
  refine hK.out _ _ n1 ?_
  clear hK K
  try simp only [Act.put, List.getElem_toArray, List.getElem_cons_succ, List.getElem_cons_zero, List.setIfInBounds_toArray, List.set_cons_zero, List.set_cons_succ]
  replace n0 := n1
  clear n1
  refine hold_step0 (i := 8) (by kernel_rfl) rfl rfl (fun K hK => ?_)
  refine wp_bytes _ _ _ rfl gb A6 (13 + 32) c6 _ rfl o7 _ A7 32 c7 _ rfl hb7 (by decide) hz7 ?_
  intro A8 c8 w8 o8 hg8 hbk8; have hz8 : gb ≤ w8.heap.size := Nat.le_trans hz7 hg8.size
  have n1 := n0.grown hg8 (fun k hk hd => absurd hd (by have := (own_lt o7 k hk).1; show ¬ k < gb; omega))
  refine hK.out _ _ n1 ?_
  clear hK K
  try simp only [Act.put, List.getElem_toArray, List.getElem_cons_succ, List.getElem_cons_zero, List.setIfInBounds_toArray, List.set_cons_zero, List.set_cons_succ]
  replace n0 := n1
  clear n1
  refine hold_step0 (i := 9) (by kernel_rfl) rfl rfl (fun K hK => ?_)
  go_simp
  refine (refsum_any _ A8 _ c8 _ w8 (Row.of_own o8) (by decide)).mono ?_
  rintro e w9 ⟨⟨A9, c9, rfl, o9⟩, k9⟩
  go_wp2_with fail
  have n1 := Keep.new n0 k9
  refine hK.out _ _ n1 ?_
  clear hK K
  try simp only [Act.put, List.getElem_toArray, List.getElem_cons_succ, List.getElem_cons_zero, List.setIfInBounds_toArray, List.set_cons_zero, List.set_cons_succ]
  replace n0 := n1
  clear n1
  refine hold_read0 (i := 10) (v := ?_) n0 rfl (by kernel_rfl) (by kernel_rfl) (by kernel_rfl) (fun _ _ _ h => h) rfl ?_ ?_
  rotate_left
  · intro w' hN
    go_simp
    try with_reducible rfl
  simp only [Act.put, List.getElem_toArray, List.getElem_cons_succ, List.getElem_cons_zero, List.setIfInBounds_toArray, List.set_cons_zero, List.set_cons_succ]
  refine wpAnyH_done (by kernel_rfl) ?_ _
  go_wp2_with fail
  go_ret
  have o9' := own_base (base := w.heap.size) o9 (show w.heap.size ≤ w8.heap.size by omega)
  rw [← HSS.out] at o9'
  refine ⟨⟨A9, c9, rfl, o9'⟩, ?_⟩
  have h1 : Keep (fun b => b < w.heap.size) w w4.drew := (Keep.of_new hK4).drew
  exact (Keep.trans2 h1 n0 (fun i _ hi => by show i < gb; omega)).toNew (fun i hi => hi)
end Go.Proofs.YtfegdgaanmcecaaGreatDoor
/-
  PROVED HERE: slices of heads; what seal.Genesis and Head, permafrostref18.Genesis answer; conditions: lengths that a slice may have.
-/
namespace Go.Proofs.YtfegdgaanmcecaaGreatDoor
open Go.RowKit

/-- a head that lies at a place. -/
def HeadAt (w : World) (D : Nat → Prop) (vs : List Value) (i : Nat) (h : HeadP) : Prop :=
  ∃ A c A2 c2, vs[i]? = some (.int .i64 h.index) ∧ vs[i + 1]? = some (.int .u64 h.first) ∧ vs[i + 2]? = some (.int .i64 h.count) ∧ vs[i + 3]? = some (.int .i64 h.bytes) ∧ vs[i + 4]? = some (.slice A h.prev.length c) ∧ vs[i + 5]? = some (.slice A2 h.root.length c2) ∧
    h.prev.length ≤ c ∧ h.root.length ≤ c2 ∧ Bs w D A h.prev.length h.prev ∧ Bs w D A2 h.root.length h.root ∧ 0 ≤ h.first ∧ h.first ≤ 18446744073709551615
theorem HeadAt.keep {w w' : World} {D E : Nat → Prop} {vs : List Value} {i : Nat} {h : HeadP} (hh : HeadAt w D vs i h) (hk : Keep E w w') (hE : ∀ b, b < w.heap.size → D b → E b) : HeadAt w' D vs i h := by
  obtain ⟨A, c, A2, c2, e0, e1, e2, e3, e4, e5, l1, l2, b1, b2, f⟩ := hh
  exact ⟨A, c, A2, c2, e0, e1, e2, e3, e4, e5, l1, l2, b1.keep hk hE, b2.keep hk hE, f⟩
theorem HeadAt.imp {w : World} {D E : Nat → Prop} {vs : List Value} {i : Nat} {h : HeadP} (hh : HeadAt w D vs i h) (hE : ∀ b, b < w.heap.size → D b → E b) : HeadAt w E vs i h := by
  obtain ⟨A, c, A2, c2, e0, e1, e2, e3, e4, e5, l1, l2, b1, b2, f⟩ := hh
  exact ⟨A, c, A2, c2, e0, e1, e2, e3, e4, e5, l1, l2, b1.imp hE, b2.imp hE, f⟩
/-- a slice of heads. -/
def Heads (w : World) (D : Nat → Prop) (A : Option Addr) (n : Nat) (hs : List HeadP) : Prop :=
  ∃ vs : List Value, Row w D A n 6 vs ∧ hs.length = n ∧ ∀ k (h : k < hs.length), HeadAt w D vs (k * 6) hs[k]
section
variable {w w' : World} {D E : Nat → Prop} {A : Option Addr} {n : Nat} {hs : List HeadP}
theorem Heads.len (h : Heads w D A n hs) : hs.length = n := by obtain ⟨_, _, h, _⟩ := h; exact h
theorem Heads.keep (h : Heads w D A n hs) (hk : Keep E w w') (hE : ∀ b, b < w.heap.size → D b → E b) : Heads w' D A n hs := by
  obtain ⟨vs, h1, h2, h3⟩ := h
  exact ⟨vs, h1.keep hk hE, h2, fun k hk' => (h3 k hk').keep hk hE⟩
theorem Heads.new (h : Heads w D A n hs) (hk : New w w') : Heads w' D A n hs := h.keep hk fun _ _ _ => trivial
theorem Heads.imp (h : Heads w D A n hs) (hE : ∀ b, b < w.heap.size → D b → E b) : Heads w E A n hs := by
  obtain ⟨vs, h1, h2, h3⟩ := h
  exact ⟨vs, h1.imp hE, h2, fun k hk => (h3 k hk).imp hE⟩
theorem Heads.nil (w : World) (D : Nat → Prop) (A : Option Addr) : Heads w D A 0 [] := ⟨[], Row.nil w D A 6, rfl, fun k hk => absurd hk (by simp)⟩
theorem Heads.at_ (h : Heads w D A n hs) {k : Nat} (hk : k < hs.length) :
    ∃ b off A1 c1 A2 c2, A = some ⟨b, off, none⟩ ∧ D b ∧ w.cell? ⟨b, off + k * 6, none⟩ = some (.int .i64 hs[k].index) ∧ w.cell? ⟨b, off + k * 6 + 1, none⟩ = some (.int .u64 hs[k].first) ∧
      w.cell? ⟨b, off + k * 6 + 2, none⟩ = some (.int .i64 hs[k].count) ∧ w.cell? ⟨b, off + k * 6 + 3, none⟩ = some (.int .i64 hs[k].bytes) ∧ w.cell? ⟨b, off + k * 6 + 4, none⟩ = some (.slice A1 hs[k].prev.length c1) ∧
      w.cell? ⟨b, off + k * 6 + 5, none⟩ = some (.slice A2 hs[k].root.length c2) ∧ hs[k].prev.length ≤ c1 ∧ hs[k].root.length ≤ c2 ∧ Bs w D A1 hs[k].prev.length hs[k].prev ∧ Bs w D A2 hs[k].root.length hs[k].root ∧ 0 ≤ hs[k].first ∧ hs[k].first ≤ 18446744073709551615 := by
  obtain ⟨vs, h1, h2, h3⟩ := h
  obtain ⟨A1, c1, A2, c2, e0, e1, e2, e3, e4, e5, rest⟩ := h3 k hk
  obtain ⟨b, off, hA, hD, _, hcell⟩ := h1.2 (by omega)
  refine ⟨b, off, A1, c1, A2, c2, hA, hD, hcell _ _ e0, ?_, ?_, ?_, ?_, ?_, rest⟩
  · rw [Nat.add_assoc]; exact hcell _ _ e1
  · rw [Nat.add_assoc]; exact hcell _ _ e2
  · rw [Nat.add_assoc]; exact hcell _ _ e3
  · rw [Nat.add_assoc]; exact hcell _ _ e4
  · rw [Nat.add_assoc]; exact hcell _ _ e5
end
def genesisOf (id : List UInt8) : List UInt8 := shaSum (3 :: id)
def headSeal (id : List UInt8) (hs : List HeadP) : List UInt8 := match hs.getLast? with | none => genesisOf id | some h => sealOf h

























set_option maxRecDepth 100000 in
theorem genesis18_any (D : Nat → Prop) (A : Option Addr) (n c : Nat) (bs : List UInt8) (w : World) (hB : Bs w D A n bs) (hn : n ≤ 1099511620000) :
    Calls Tryz.prog 42 #[.slice A n c] w fun e w' => (∃ A' c', e = .returned (.slice A' 32 c') ∧ OwnB w' w.heap.size 5 A' 32 c' (genesisOf bs)) ∧ New w w' := by
  have hown0 : OwnB (w.alloc (.cells #[.int .u8 3] 5)) w.heap.size 5 (some ⟨w.heap.size, 0, none⟩) 1 1 [3] := ownB_one w 3
  have hK0 : New w (w.alloc (.cells #[.int .u8 3] 5)) := (New.refl w).alloc _
  have hB0 := hB.alloc (.cells #[.int .u8 3] 5)
  have hbd : 1 + n ≤ 140737488355328 := by omega
  have hbd2 : 1 + n ≤ 1099511627776 := by omega
  clear hB
  go_enter Tryz.func42, Tryz.ntmps42
  go_wp2_with (at_builtin; refine app_bytes _ rfl _ _ rfl w.heap.size _ 1 1 [3] rfl hown0 D A n c bs rfl hB0 hbd hK0.size ?_; intro A1 c1 w1 hown1 hg1 hbk1)
  have hK1 := new_app0 hK0 hown0 hg1
  clear hg1 hbk1 hB0 hown0 hK0
  refine (refsum_any _ A1 (1 + n) c1 _ w1 (Row.of_own hown1) hbd2).mono ?_
  rintro e w2 ⟨⟨A2, c2, rfl, hown2⟩, hK2⟩
  go_wp2_with fail
  go_ret
  exact ⟨⟨_, _, rfl, own_base hown2 hK1.size⟩, hK1.new hK2⟩
theorem headSeal_nil (id : List UInt8) : headSeal id [] = genesisOf id := rfl
theorem headSeal_last (id : List UInt8) (hs : List HeadP) (h : hs.length - 1 < hs.length) : headSeal id hs = sealOf hs[hs.length - 1] := by
  unfold headSeal
  rw [List.getLast?_eq_getElem?, List.getElem?_eq_getElem h]




































/-- how many heads are chained, from a place on. -/
def linksGo : Nat → List UInt8 → Int → List HeadP → Nat
  | i, _, _, [] => i
  | i, prev, first, h :: hs => if h.index = i ∧ h.first = first ∧ h.prev = prev then linksGo (i + 1) (sealOf h) (IntKind.u64.wrap (first + IntKind.u64.wrap h.count)) hs else i
def linksOf (id : List UInt8) (hs : List HeadP) : Nat := linksGo 0 (genesisOf id) 1 hs














end Go.Proofs.YtfegdgaanmcecaaGreatDoor
/-
  PROVED HERE: what permafrostref18.Head answers; conditions: lengths that a slice may have.
-/
namespace Go.Proofs.YtfegdgaanmcecaaGreatDoor
open Go.RowKit

set_option maxRecDepth 100000 in
set_option maxHeartbeats 1000000 in
theorem head18_any (D D2 : Nat → Prop) (A A2 : Option Addr) (n c n2 c2 : Nat) (id : List UInt8) (hs : List HeadP) (w : World) (hB : Bs w D A n id) (hn : n ≤ 1099511620000) (hH : Heads w D2 A2 n2 hs) (hn2 : n2 ≤ 9223372036854775807) :
    Calls Tryz.prog 14 #[.slice A n c, .slice A2 n2 c2] w fun e w' => (∃ A' c', e = .returned (.slice A' 32 c') ∧ OwnB w' w.heap.size 5 A' 32 c' (headSeal id hs)) ∧ New w w' := by
  have hl := hH.len
  by_cases h0 : n2 = 0
  · subst h0
    obtain rfl : hs = [] := List.eq_nil_of_length_eq_zero hl
    rw [headSeal_nil]
    have HG := Lib.hid (genesis18_any D A n c id w hB hn)
    clear hl hH hB
    go_enter Tryz.func14, Tryz.ntmps14
    go_wp2_with fail
    refine HG.out.mono ?_
    rintro e w1 ⟨⟨A1, c1, rfl, ho⟩, hK⟩
    go_wp2_with fail
    go_ret
    exact ⟨⟨_, _, rfl, ho⟩, hK⟩
  · have h0' : ((n2 : Int) == 0) = false := by simpa using h0
    have hlt : hs.length - 1 < hs.length := by omega
    obtain ⟨b, off, P1, p1, P2, p2, rfl, _, e0, e1, e2, e3, e4, e5, l1, l2, b1, b2, f0, f1⟩ := hH.at_ hlt
    have HS := Lib.hid (headSeal_last id hs hlt)
    generalize hs[hs.length - 1] = h at *
    rw [show hs.length - 1 = n2 - 1 from by omega] at e0 e1 e2 e3 e4 e5
    have HG := Lib.hid (seal17_any D2 D2 P1 P2 h.prev.length p1 h.root.length p2 h w b1 l1 b2 l2 f0 f1)
    have q1 : IntKind.i64.wrap ((n2 : Int) - 1) = ((n2 - 1 : Nat) : Int) := by rw [IntWalk.i64_in _ (by omega)]; omega
    have q2 : n2 - 1 < n2 := by omega
    rw [HS.out]
    clear hl hH hB l1 l2 b1 b2 f0 f1 h0 hlt
    go_enter Tryz.func14, Tryz.ntmps14
    go_wp2_with fail
    refine HG.out.mono ?_
    rintro e w1 ⟨⟨A1, c1, rfl, ho⟩, hK⟩
    go_wp2_with fail
    go_ret
    exact ⟨⟨_, _, rfl, ho⟩, hK⟩
end Go.Proofs.YtfegdgaanmcecaaGreatDoor
/-
  PROVED HERE: rows of heads that a call makes, and the law of append at them; condition: fewer than 2^40 heads.
-/
namespace Go.Proofs.YtfegdgaanmcecaaGreatDoor
open Go.RowKit

theorem info_headR : (Tryz.prog.info? 40).map (fun i => (i.zero, i.size, i.bytes)) = some (some (.agg #[.int .i64 0, .int .u64 0, .int .i64 0, .int .i64 0, .slice none 0 0, .slice none 0 0]), 6, 80) := by kernel_rfl
theorem app_cells6R {ops : Array Oper} {rest : List Oper} {o : Oper} {a : Act} {Q : Exit → Act → World → Prop} (w : World) (hgd : o.guard = none) (s x : Operand)
    (ho : o.op = .call { callee := .builtin .append, args := #[s, x], argTypes := #[24, 24] })
    (base : Nat) (A : Option Addr) (n c : Nat) (xs : List Value) (hs : a.eval s = .slice A n c) (hown : Own w base 40 6 A n c xs)
    (D : Nat → Prop) (A2 : Option Addr) (m c2 : Nat) (news : List Value) (hx : a.eval x = .slice A2 m c2) (hr : Row w D A2 m 6 news) (h1 : ∀ u ∈ news, u.oneCell' = true)
    (h63 : n + m ≤ 1099511627776) (hbase : base ≤ w.heap.size)
    (h : ∀ A' c' w', Own w' base 40 6 A' (n + m) c' (xs ++ news) → w.grownBy w' (blk A) → (blk A' = blk A ∨ blk A' = some w.heap.size) → wpList Tryz.prog ops Q rest (a.put o.dst (.slice A' (n + m) c')) w') : wpList Tryz.prog ops Q (o :: rest) a w := by
  obtain ⟨i, hi, hz0, hz1, hz2⟩ := info_parts info_headR
  exact wpList_append_row w hgd s x 24 ho base 40 i (.agg #[.int .i64 0, .int .u64 0, .int .i64 0, .int .i64 0, .slice none 0 0, .slice none 0 0]) 6 80 Tryz.underlying24 hi hz0 hz1 hz2 rfl (by decide) A n c xs hs hown D A2 m c2 news hx hr h1 (by unfold maxLen; omega) (by omega) hbase h
/-- heads, the row of the call's own; their bytes lie in blocks that meet D, none in the row's. -/
def OwnHeadsR (w : World) (base : Nat) (D : Nat → Prop) (A : Option Addr) (n c : Nat) (hs : List HeadP) : Prop :=
  ∃ vs : List Value, Own w base 40 6 A n c vs ∧ hs.length = n ∧ ∀ k (h : k < hs.length), HeadAt w (fun b => D b ∧ some b ≠ blk A) vs (k * 6) hs[k]
section
variable {w w' : World} {base base' : Nat} {D E : Nat → Prop} {A : Option Addr} {n c : Nat} {hs : List HeadP}
theorem OwnHeadsR.nil (w : World) (base : Nat) (D : Nat → Prop) : OwnHeadsR w base D none 0 0 [] := ⟨[], Own.nil _ _ _ _, rfl, fun k hk => absurd hk (by simp)⟩
theorem OwnHeadsR.new (h : OwnHeadsR w base D A n c hs) (hk : New w w') : OwnHeadsR w' base D A n c hs := by
  obtain ⟨vs, h1, h2, h3⟩ := h
  exact ⟨vs, own_keep h1 hk (fun _ _ => trivial), h2, fun k hk' => (h3 k hk').keep hk fun _ _ _ => trivial⟩
theorem OwnHeadsR.len (h : OwnHeadsR w base D A n c hs) : hs.length = n := by obtain ⟨_, _, h, _⟩ := h; exact h
theorem OwnHeadsR.cap (h : OwnHeadsR w base D A n c hs) : n ≤ c := by obtain ⟨_, h, _⟩ := h; exact own_cap h
theorem OwnHeadsR.capMax (h : OwnHeadsR w base D A n c hs) : c ≤ 9223372036854775807 := by obtain ⟨_, h, _⟩ := h; exact own_capMax h
theorem OwnHeadsR.lt (h : OwnHeadsR w base D A n c hs) : ∀ k, blk A = some k → base ≤ k ∧ k < w.heap.size := by obtain ⟨_, h, _⟩ := h; exact own_lt h
theorem OwnHeadsR.keepE (h : OwnHeadsR w base D A n c hs) (hk : Keep E w w') (hb : ∀ k, blk A = some k → E k) (hD : ∀ b, D b → E b) : OwnHeadsR w' base D A n c hs := by
  obtain ⟨vs, h1, h2, h3⟩ := h
  exact ⟨vs, own_keep h1 hk hb, h2, fun k hk' => (h3 k hk').keep hk fun b _ hd => hD b hd.1⟩
theorem OwnHeadsR.heads (h : OwnHeadsR w base D A n c hs) : Heads w (fun b => base ≤ b ∨ D b) A n hs := by
  obtain ⟨vs, h1, h2, h3⟩ := h
  exact ⟨vs, (Row.of_own h1).imp (fun _ _ h => .inl h), h2, fun k hk => (h3 k hk).imp fun _ _ h => .inr h.1⟩
end
/-- one head more. -/
theorem app_headsR {ops : Array Oper} {rest : List Oper} {o : Oper} {a : Act} {Q : Exit → Act → World → Prop} (w : World) (hgd : o.guard = none) (s x : Operand)
    (ho : o.op = .call { callee := .builtin .append, args := #[s, x], argTypes := #[24, 24] })
    (base : Nat) (D : Nat → Prop) (A : Option Addr) (n c : Nat) (hs : List HeadP) (hv : a.eval s = .slice A n c) (hown : OwnHeadsR w base D A n c hs)
    (D2 : Nat → Prop) (A2 : Option Addr) (c2 : Nat) (P1 P2 : Option Addr) (p1 p2 : Nat) (y : HeadP) (hx : a.eval x = .slice A2 1 c2) (hr : Row w D2 A2 1 6 [.int .i64 y.index, .int .u64 y.first, .int .i64 y.count, .int .i64 y.bytes, .slice P1 y.prev.length p1, .slice P2 y.root.length p2])
    (hy1 : Bs w (fun b => D b ∧ some b ≠ blk A) P1 y.prev.length y.prev) (hy2 : Bs w (fun b => D b ∧ some b ≠ blk A) P2 y.root.length y.root) (hl1 : y.prev.length ≤ p1) (hl2 : y.root.length ≤ p2) (hs0 : 0 ≤ y.first) (hs1 : y.first ≤ 18446744073709551615)
    (h63 : n + 1 ≤ 1099511627776) (hbase : base ≤ w.heap.size)
    (h : ∀ A3 c3 w3, OwnHeadsR w3 base D A3 (n + 1) c3 (hs ++ [y]) → w.grownBy w3 (blk A) → (blk A3 = blk A ∨ blk A3 = some w.heap.size) → wpList Tryz.prog ops Q rest (a.put o.dst (.slice A3 (n + 1) c3)) w3) : wpList Tryz.prog ops Q (o :: rest) a w := by
  obtain ⟨vs, h1, h2, h3⟩ := hown
  refine app_cells6R w hgd s x ho base A n c vs hv h1 D2 A2 1 c2 [.int .i64 y.index, .int .u64 y.first, .int .i64 y.count, .int .i64 y.bytes, .slice P1 y.prev.length p1, .slice P2 y.root.length p2] hx hr (by intro u hu; simp at hu; rcases hu with rfl | rfl | rfl | rfl | rfl | rfl <;> rfl) h63 hbase ?_
  intro A3 c3 w3 hown3 hg3 hbk3
  refine h A3 c3 w3 ⟨vs ++ [.int .i64 y.index, .int .u64 y.first, .int .i64 y.count, .int .i64 y.bytes, .slice P1 y.prev.length p1, .slice P2 y.root.length p2], hown3, by simp [h2], fun k hk => ?_⟩ hg3 hbk3
  have hvl : vs.length = n * 6 := h1.1
  have move : ∀ {A0 : Option Addr} {m0 : Nat} {z : List UInt8}, Bs w (fun b => D b ∧ some b ≠ blk A) A0 m0 z → Bs w3 (fun b => D b ∧ some b ≠ blk A3) A0 m0 z := fun {A0 m0 z} hb => by
    have hk3 : Keep (fun b => some b ≠ blk A) w w3 := (Keep.refl _ w).grown hg3 (fun k hk hd => absurd hk.symm hd)
    have hb3 : Bs w (fun b => (D b ∧ some b ≠ blk A) ∧ some b ≠ blk A3) A0 m0 z := hb.imp fun b hlt hd => ⟨hd, by
      rcases hbk3 with e | e
      · rw [e]; exact hd.2
      · rw [e]; intro e'; injection e'; omega⟩
    exact (Row.keep hb3 hk3 (fun b _ hd => hd.1.2)).imp fun b _ hd => ⟨hd.1.1, hd.2⟩
  by_cases hkn : k < hs.length
  · rw [List.getElem_append_left hkn]
    obtain ⟨Q1, q1, Q2, q2, e0, e1, e2, e3, e4, e5, l1, l2, b1, b2, f⟩ := h3 k hkn
    refine ⟨Q1, q1, Q2, q2, ?_, ?_, ?_, ?_, ?_, ?_, l1, l2, move b1, move b2, f⟩
    all_goals
      rw [List.getElem?_append_left (by omega)]
      assumption
  · have hk' : k = hs.length := by simp at hk; omega
    subst hk'
    rw [List.getElem_append_right (Nat.le_refl _)]
    simp only [Nat.sub_self, List.getElem_singleton]
    refine ⟨P1, p1, P2, p2, ?_, ?_, ?_, ?_, ?_, ?_, hl1, hl2, move hy1, move hy2, hs0, hs1⟩
    · rw [List.getElem?_append_right (by omega), show hs.length * 6 - vs.length = 0 from by omega]; rfl
    · rw [List.getElem?_append_right (by omega), show hs.length * 6 + 1 - vs.length = 1 from by omega]; rfl
    · rw [List.getElem?_append_right (by omega), show hs.length * 6 + 2 - vs.length = 2 from by omega]; rfl
    · rw [List.getElem?_append_right (by omega), show hs.length * 6 + 3 - vs.length = 3 from by omega]; rfl
    · rw [List.getElem?_append_right (by omega), show hs.length * 6 + 4 - vs.length = 4 from by omega]; rfl
    · rw [List.getElem?_append_right (by omega), show hs.length * 6 + 5 - vs.length = 5 from by omega]; rfl
end Go.Proofs.YtfegdgaanmcecaaGreatDoor
/-
  PROVED HERE: rows of heads that a call makes, and the law of append at them; condition: fewer than 2^40 heads.
-/
namespace Go.Proofs.YtfegdgaanmcecaaGreatDoor
open Go.RowKit

theorem info_head : (Tryz.prog.info? 33).map (fun i => (i.zero, i.size, i.bytes)) = some (some (.agg #[.int .i64 0, .int .u64 0, .int .i64 0, .int .i64 0, .slice none 0 0, .slice none 0 0]), 6, 80) := by kernel_rfl
theorem app_cells6 {ops : Array Oper} {rest : List Oper} {o : Oper} {a : Act} {Q : Exit → Act → World → Prop} (w : World) (hgd : o.guard = none) (s x : Operand)
    (ho : o.op = .call { callee := .builtin .append, args := #[s, x], argTypes := #[34, 34] })
    (base : Nat) (A : Option Addr) (n c : Nat) (xs : List Value) (hs : a.eval s = .slice A n c) (hown : Own w base 33 6 A n c xs)
    (D : Nat → Prop) (A2 : Option Addr) (m c2 : Nat) (news : List Value) (hx : a.eval x = .slice A2 m c2) (hr : Row w D A2 m 6 news) (h1 : ∀ u ∈ news, u.oneCell' = true)
    (h63 : n + m ≤ 1099511627776) (hbase : base ≤ w.heap.size)
    (h : ∀ A' c' w', Own w' base 33 6 A' (n + m) c' (xs ++ news) → w.grownBy w' (blk A) → (blk A' = blk A ∨ blk A' = some w.heap.size) → wpList Tryz.prog ops Q rest (a.put o.dst (.slice A' (n + m) c')) w') : wpList Tryz.prog ops Q (o :: rest) a w := by
  obtain ⟨i, hi, hz0, hz1, hz2⟩ := info_parts info_head
  exact wpList_append_row w hgd s x 34 ho base 33 i (.agg #[.int .i64 0, .int .u64 0, .int .i64 0, .int .i64 0, .slice none 0 0, .slice none 0 0]) 6 80 Tryz.underlying34 hi hz0 hz1 hz2 rfl (by decide) A n c xs hs hown D A2 m c2 news hx hr h1 (by unfold maxLen; omega) (by omega) hbase h
/-- heads, the row of the call's own; their bytes lie in blocks that meet D, none in the row's. -/
def OwnHeads (w : World) (base : Nat) (D : Nat → Prop) (A : Option Addr) (n c : Nat) (hs : List HeadP) : Prop :=
  ∃ vs : List Value, Own w base 33 6 A n c vs ∧ hs.length = n ∧ ∀ k (h : k < hs.length), HeadAt w (fun b => D b ∧ some b ≠ blk A) vs (k * 6) hs[k]
section
variable {w w' : World} {base base' : Nat} {D E : Nat → Prop} {A : Option Addr} {n c : Nat} {hs : List HeadP}
theorem OwnHeads.nil (w : World) (base : Nat) (D : Nat → Prop) : OwnHeads w base D none 0 0 [] := ⟨[], Own.nil _ _ _ _, rfl, fun k hk => absurd hk (by simp)⟩
theorem OwnHeads.new (h : OwnHeads w base D A n c hs) (hk : New w w') : OwnHeads w' base D A n c hs := by
  obtain ⟨vs, h1, h2, h3⟩ := h
  exact ⟨vs, own_keep h1 hk (fun _ _ => trivial), h2, fun k hk' => (h3 k hk').keep hk fun _ _ _ => trivial⟩
theorem OwnHeads.len (h : OwnHeads w base D A n c hs) : hs.length = n := by obtain ⟨_, _, h, _⟩ := h; exact h
theorem OwnHeads.cap (h : OwnHeads w base D A n c hs) : n ≤ c := by obtain ⟨_, h, _⟩ := h; exact own_cap h
theorem OwnHeads.capMax (h : OwnHeads w base D A n c hs) : c ≤ 9223372036854775807 := by obtain ⟨_, h, _⟩ := h; exact own_capMax h
theorem OwnHeads.lt (h : OwnHeads w base D A n c hs) : ∀ k, blk A = some k → base ≤ k ∧ k < w.heap.size := by obtain ⟨_, h, _⟩ := h; exact own_lt h
theorem OwnHeads.keepE (h : OwnHeads w base D A n c hs) (hk : Keep E w w') (hb : ∀ k, blk A = some k → E k) (hD : ∀ b, D b → E b) : OwnHeads w' base D A n c hs := by
  obtain ⟨vs, h1, h2, h3⟩ := h
  exact ⟨vs, own_keep h1 hk hb, h2, fun k hk' => (h3 k hk').keep hk fun b _ hd => hD b hd.1⟩
theorem OwnHeads.heads (h : OwnHeads w base D A n c hs) : Heads w (fun b => base ≤ b ∨ D b) A n hs := by
  obtain ⟨vs, h1, h2, h3⟩ := h
  exact ⟨vs, (Row.of_own h1).imp (fun _ _ h => .inl h), h2, fun k hk => (h3 k hk).imp fun _ _ h => .inr h.1⟩
end
/-- one head more. -/
theorem app_heads {ops : Array Oper} {rest : List Oper} {o : Oper} {a : Act} {Q : Exit → Act → World → Prop} (w : World) (hgd : o.guard = none) (s x : Operand)
    (ho : o.op = .call { callee := .builtin .append, args := #[s, x], argTypes := #[34, 34] })
    (base : Nat) (D : Nat → Prop) (A : Option Addr) (n c : Nat) (hs : List HeadP) (hv : a.eval s = .slice A n c) (hown : OwnHeads w base D A n c hs)
    (D2 : Nat → Prop) (A2 : Option Addr) (c2 : Nat) (P1 P2 : Option Addr) (p1 p2 : Nat) (y : HeadP) (hx : a.eval x = .slice A2 1 c2) (hr : Row w D2 A2 1 6 [.int .i64 y.index, .int .u64 y.first, .int .i64 y.count, .int .i64 y.bytes, .slice P1 y.prev.length p1, .slice P2 y.root.length p2])
    (hy1 : Bs w (fun b => D b ∧ some b ≠ blk A) P1 y.prev.length y.prev) (hy2 : Bs w (fun b => D b ∧ some b ≠ blk A) P2 y.root.length y.root) (hl1 : y.prev.length ≤ p1) (hl2 : y.root.length ≤ p2) (hs0 : 0 ≤ y.first) (hs1 : y.first ≤ 18446744073709551615)
    (h63 : n + 1 ≤ 1099511627776) (hbase : base ≤ w.heap.size)
    (h : ∀ A3 c3 w3, OwnHeads w3 base D A3 (n + 1) c3 (hs ++ [y]) → w.grownBy w3 (blk A) → (blk A3 = blk A ∨ blk A3 = some w.heap.size) → wpList Tryz.prog ops Q rest (a.put o.dst (.slice A3 (n + 1) c3)) w3) : wpList Tryz.prog ops Q (o :: rest) a w := by
  obtain ⟨vs, h1, h2, h3⟩ := hown
  refine app_cells6 w hgd s x ho base A n c vs hv h1 D2 A2 1 c2 [.int .i64 y.index, .int .u64 y.first, .int .i64 y.count, .int .i64 y.bytes, .slice P1 y.prev.length p1, .slice P2 y.root.length p2] hx hr (by intro u hu; simp at hu; rcases hu with rfl | rfl | rfl | rfl | rfl | rfl <;> rfl) h63 hbase ?_
  intro A3 c3 w3 hown3 hg3 hbk3
  refine h A3 c3 w3 ⟨vs ++ [.int .i64 y.index, .int .u64 y.first, .int .i64 y.count, .int .i64 y.bytes, .slice P1 y.prev.length p1, .slice P2 y.root.length p2], hown3, by simp [h2], fun k hk => ?_⟩ hg3 hbk3
  have hvl : vs.length = n * 6 := h1.1
  have move : ∀ {A0 : Option Addr} {m0 : Nat} {z : List UInt8}, Bs w (fun b => D b ∧ some b ≠ blk A) A0 m0 z → Bs w3 (fun b => D b ∧ some b ≠ blk A3) A0 m0 z := fun {A0 m0 z} hb => by
    have hk3 : Keep (fun b => some b ≠ blk A) w w3 := (Keep.refl _ w).grown hg3 (fun k hk hd => absurd hk.symm hd)
    have hb3 : Bs w (fun b => (D b ∧ some b ≠ blk A) ∧ some b ≠ blk A3) A0 m0 z := hb.imp fun b hlt hd => ⟨hd, by
      rcases hbk3 with e | e
      · rw [e]; exact hd.2
      · rw [e]; intro e'; injection e'; omega⟩
    exact (Row.keep hb3 hk3 (fun b _ hd => hd.1.2)).imp fun b _ hd => ⟨hd.1.1, hd.2⟩
  by_cases hkn : k < hs.length
  · rw [List.getElem_append_left hkn]
    obtain ⟨Q1, q1, Q2, q2, e0, e1, e2, e3, e4, e5, l1, l2, b1, b2, f⟩ := h3 k hkn
    refine ⟨Q1, q1, Q2, q2, ?_, ?_, ?_, ?_, ?_, ?_, l1, l2, move b1, move b2, f⟩
    all_goals
      rw [List.getElem?_append_left (by omega)]
      assumption
  · have hk' : k = hs.length := by simp at hk; omega
    subst hk'
    rw [List.getElem_append_right (Nat.le_refl _)]
    simp only [Nat.sub_self, List.getElem_singleton]
    refine ⟨P1, p1, P2, p2, ?_, ?_, ?_, ?_, ?_, ?_, hl1, hl2, move hy1, move hy2, hs0, hs1⟩
    · rw [List.getElem?_append_right (by omega), show hs.length * 6 - vs.length = 0 from by omega]; rfl
    · rw [List.getElem?_append_right (by omega), show hs.length * 6 + 1 - vs.length = 1 from by omega]; rfl
    · rw [List.getElem?_append_right (by omega), show hs.length * 6 + 2 - vs.length = 2 from by omega]; rfl
    · rw [List.getElem?_append_right (by omega), show hs.length * 6 + 3 - vs.length = 3 from by omega]; rfl
    · rw [List.getElem?_append_right (by omega), show hs.length * 6 + 4 - vs.length = 4 from by omega]; rfl
    · rw [List.getElem?_append_right (by omega), show hs.length * 6 + 5 - vs.length = 5 from by omega]; rfl
end Go.Proofs.YtfegdgaanmcecaaGreatDoor
