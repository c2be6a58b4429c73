/-
  PROVED HERE: texts that belong together, one behind the other; what each proves, and under which conditions, its own opening remark says: Ref17a, Seal17, Heads, Heads18, OwnHeads17, OwnHeads, Zeros, BuildAny, Args17, Build17, Imgs, OwnImgs.
-/
import Derived.Test.YtajnkbfcnmajoaaGreatDoorPkB25
/-
  PROVED HERE: what permafrostref17.Fits, Leaves and hash answer: what the program's do; conditions: lengths that a slice may have.
-/
namespace Go.Proofs.YtajnkbfcnmajoaaGreatDoor
open Go.RowKit
set_option maxRecDepth 100000 in
set_option maxHeartbeats 2000000 in
theorem fits17_any (D : Nat → Prop) (A : Option Addr) (n c : Nat) (rs : List RecP) (w : World) (hB : Recs w D A n rs) (hn : n ≤ 9223372036854775807) :
  Calls Tryz.prog 78 #[.slice A n c] w fun e w' => e = .returned (.int .i64 (fitsIn 942 rs)) ∧ New w w' := by
 have hl := hB.len
 have HB := Lib.hid hB
 clear hB
 go_enter Tryz.func78, Tryz.ntmps78
 go_wp2_with fail
 go_loopw [3, 4] (fun s3 i wx => ∃ k left : Nat, k ≤ n ∧ left ≤ 942 ∧ i = .int .i64 (k : Int) ∧ s3 = .int .i64 ((942 - left : Nat) : Int) ∧ fitsIn 942 rs = k + fitsIn left (rs.drop k) ∧ New w wx) (fun _ i _ => n - (intOf i).toNat)
 case atStart => exact ⟨0, 942, Nat.zero_le _, Nat.le_refl _, rfl, rfl, by simp, New.refl _⟩
 case round =>
  obtain ⟨k, left, hk, hlf, rfl, rfl, hf, hK⟩ := hrel
  have HF := Lib.hid hf
  clear hf
  by_cases hlt : k < n
  ·obtain ⟨b, off, A', c', rfl, h1, h2, h3, hc', hb, hs0, hs1, hc9⟩ := (HB.out.new hK).at_ (k := k) (by omega)
   have HST := Lib.hid (fits_step left k rs (by omega))
   have HSP := Lib.hid (fits_stop left k rs (by omega))
   generalize rs[k]'_ = r at *
   have HS := Lib.hid (fun w' => size16_any r.kind r.seq A' r.body.length c' r w' rfl rfl rfl (by omega))
   have HZ0 : Hid (recSize r = 0 ↔ recRight r = false) := Lib.hid (by
    unfold recSize
    by_cases h : recRight r = true
    ·rw [if_pos h]; simp [h]
    ·rw [if_neg h]; simpa using h)
   clear hb hc' hs0 hs1
   go_wp2_with fail
   refine (HS.out _).mono ?_
   rintro e w1 ⟨rfl, hK1⟩
   have hK01 := hK.new hK1
   clear hK hK1 h1 h2 h3 HS
   have q1 : IntKind.i64.wrap (942 - ((942 - left : Nat) : Int)) = (left : Int) := by rw [IntWalk.i64_in _ (by omega)]; omega
   by_cases hz : recSize r = 0
   ·have hz' : ((recSize r : Int) == 0) = true := by rw [hz]; rfl
    have hr : recRight r = false := HZ0.out.1 hz
    have HZ := Lib.hid (HSP.out (fun h => by rw [hr] at h; exact absurd h.1 (by decide)))
    clear hz
    go_wp2_with fail
    go_ret
    exact ⟨by rw [HF.out, HZ.out]; rfl, hK01⟩
   ·have hz' : ((recSize r : Int) == 0) = false := by simpa using hz
    have hr : recRight r = true := by
     by_cases h : recRight r = true
     ·exact h
     ·exact absurd (HZ0.out.2 (by simpa using h)) hz
    have HR := Lib.hid hr
    clear hr hz
    by_cases hsz : recSize r ≤ left
    ·have hsz' : ¬ ((left : Int) < recSize r) := by omega
     have q2 : IntKind.i64.wrap (((942 - left : Nat) : Int) + (recSize r : Int)) = ((942 - (left - recSize r) : Nat) : Int) := by rw [IntWalk.i64_in _ (by omega)]; omega
     go_wp2_with fail
     go_roundw
     case rel => exact ⟨k + 1, left - recSize r, by omega, by omega, by go_num, by first | rfl | go_num, by have h := HF.out; rw [HST.out HR.out hsz] at h; omega, hK01⟩
     case measure => simp [intOf]; omega
    ·have hsz' : (left : Int) < recSize r := by omega
     have HZ := Lib.hid (HSP.out (fun h => hsz h.2))
     clear hsz
     go_wp2_with fail
     go_ret
     exact ⟨by rw [HF.out, HZ.out]; rfl, hK01⟩
  ·obtain rfl : k = n := by omega
   rw [List.drop_eq_nil_of_le (by omega)] at HF
   have hl' : fitsIn left [] = 0 := rfl
   have HL' := Lib.hid hl'
   clear hl' hl
   go_wp2_with fail
   go_ret
   exact ⟨by rw [HF.out, HL'.out]; rfl, hK⟩
set_option maxRecDepth 100000 in
set_option maxHeartbeats 2000000 in
theorem leaves17_any (D : Nat → Prop) (A : Option Addr) (n c : Nat) (rs : List RecP) (w : World) (hB : Recs w D A n rs) (hn : n ≤ 1099511620000) :
  Calls Tryz.prog 83 #[.slice A n c] w fun e w' => (∃ A' c', e = .returned (.slice A' n c') ∧ OwnBss w' w.heap.size (fun b => w.heap.size ≤ b) A' n c' (leavesOf rs)) ∧ New w w' := by
 have hl := hB.len
 have HB := Lib.hid hB
 clear hB
 go_enter Tryz.func83, Tryz.ntmps83
 go_wp2_with fail
 go_loopw [3, 4] (fun s3 i wx => ∃ (k : Nat) (A' : Option Addr) (c' : Nat), k ≤ n ∧ i = .int .i64 (k : Int) ∧ s3 = .slice A' k c' ∧ OwnBss wx w.heap.size (fun b => w.heap.size ≤ b) A' k c' (leavesOf (rs.take k)) ∧ New w wx) (fun _ i _ => n - (intOf i).toNat)
 case atStart => exact ⟨0, none, 0, Nat.zero_le _, rfl, rfl, OwnBss.nil _ _ _, New.refl _⟩
 case round =>
  obtain ⟨k, A1, c1, hk, rfl, rfl, hown, hK⟩ := hrel
  by_cases hlt : k < n
  ·obtain ⟨b, off, A', c', rfl, h1, h2, h3, hc', hb, hs0, hs1, hc9⟩ := (HB.out.new hK).at_ (k := k) (by omega)
   have HLT := Lib.hid (leaves_take rs k (by omega))
   generalize rs[k]'_ = r at *
   have HRI := Lib.hid (fun W => right16_any r.kind r.seq A' r.body.length c' r W rfl rfl rfl (by omega))
   have HE := Lib.hid (fun W hW => encode16_any D A' r.body.length c' r W (hb.new hW) hc' (by omega) hs0 hs1)
   have H1 := Lib.hid h1
   have H2 := Lib.hid h2
   have H3 := Lib.hid h3
   clear hb hc' hs0 hs1
   go_wp2_with fail
   refine (HRI.out wr).mono ?_
   rintro e w0 ⟨rfl, hK0⟩
   have g1 := hK0.cell_some H1.out trivial
   have g2 := hK0.cell_some H2.out trivial
   have g3 := hK0.cell_some H3.out trivial
   have hown0 := hown.new hK0
   have hK00 := hK.new hK0
   have HK0 := Lib.hid hK0
   clear h1 h2 h3 hown hK hK0 HRI
   by_cases hr : recRight r = true
   ·rw [if_pos hr] at HLT
    rw [hr]
    clear hr
    go_wp2_with fail
    refine (HE.out w0 HK0.out).mono ?_
    rintro e w1 ⟨⟨A2, c2, rfl, hown2⟩, hK1⟩
    have hown1 := hown0.new hK1
    have hK01 := hK00.new hK1
    have hge : w.heap.size ≤ w0.heap.size := hK00.size
    have hy := (Row.imp (hown1.apart hown2) (E := fun b => w.heap.size ≤ b ∧ some b ≠ blk A1) (fun b _ h => ⟨Nat.le_trans hge h.1, h.2⟩)).alloc (.cells #[.slice A2 (recEnc r).length c2] 25)
    have hmc := own_cap hown2
    have hown1' := hown1.new ((New.refl w1).alloc (.cells #[.slice A2 (recEnc r).length c2] 25))
    have hrow := row_one w1 25 (.slice A2 (recEnc r).length c2)
    have hbd : k + 1 ≤ 1099511627776 := by omega
    have hsz : w.heap.size ≤ (w1.alloc (.cells #[.slice A2 (recEnc r).length c2] 25)).heap.size := (hK01.alloc _).size
    clear hown0 hK00 hK1 g1 g2 g3 HE hown2 hge
    go_wp2_with (at_builtin; refine app_bss _ rfl _ _ rfl w.heap.size (fun b => w.heap.size ≤ b) A1 k c1 _ rfl hown1' (fun g => w1.heap.size ≤ g) _ 1 A2 _ c2 _ rfl hrow hy hmc hbd hsz ?_; intro A3 c3 w3 hown3 hg3 hbk3)
    have hK3 := (hK01.alloc (.cells #[.slice A2 (recEnc r).length c2] 25)).grown hg3 (fun k hk _ => (hown1.lt k hk).1)
    clear hown1 hown1' hrow hy hmc hg3 hbk3 hK01 hsz
    go_roundw
    case rel => exact ⟨k + 1, _, _, by omega, by go_num, rfl, by rw [HLT.out]; exact hown3, hK3⟩
    case measure => simp [intOf]; omega
   ·have hr' : recRight r = false := by simpa using hr
    rw [if_neg hr] at HLT
    rw [hr']
    clear hr hr'
    have hy : Bs (w0.alloc (.cells #[.slice none 0 0] 25)) (fun b => w.heap.size ≤ b ∧ some b ≠ blk A1) none 0 [] := Row.nil _ _ _ _
    have hown1' := hown0.new ((New.refl w0).alloc (.cells #[.slice none 0 0] 25))
    have hrow := row_one w0 25 (.slice none 0 0)
    have hbd : k + 1 ≤ 1099511627776 := by omega
    have hsz : w.heap.size ≤ (w0.alloc (.cells #[.slice none 0 0] 25)).heap.size := (hK00.alloc _).size
    clear g1 g2 g3 HE
    go_wp2_with (at_builtin; refine app_bss _ rfl _ _ rfl w.heap.size (fun b => w.heap.size ≤ b) A1 k c1 _ rfl hown1' (fun g => w0.heap.size ≤ g) _ 1 none _ 0 _ rfl hrow hy (Nat.le_refl _) hbd hsz ?_; intro A3 c3 w3 hown3 hg3 hbk3)
    have hK3 := (hK00.alloc (.cells #[.slice none 0 0] 25)).grown hg3 (fun k hk _ => (hown0.lt k hk).1)
    clear hown0 hown1' hrow hy hg3 hbk3 hK00 hsz
    go_roundw
    case rel => exact ⟨k + 1, _, _, by omega, by go_num, rfl, by rw [HLT.out]; exact hown3, hK3⟩
    case measure => simp [intOf]; omega
  ·obtain rfl : k = n := by omega
   rw [List.take_of_length_le (by omega)] at hown
   go_wp2_with fail
   go_ret
   exact ⟨⟨_, _, rfl, hown⟩, hK⟩
set_option maxRecDepth 100000 in
theorem hash17_any (D : Nat → Prop) (A : Option Addr) (n c : Nat) (bs : List UInt8) (w : World) (hB : Bs w D A n bs) (hnc : n ≤ c) :
  Calls Tryz.prog 118 #[.slice A n c] w fun e w' => (∃ A' c', e = .returned (.slice A' 32 c') ∧ 32 ≤ c' ∧ Bs w' (fun b => D b ∨ w.heap.size ≤ b) A' 32 (whole32 bs)) ∧ New w w' := by
 have hl := hB.len
 by_cases h32 : n = 32
 ·subst h32
  have hw : whole32 bs = bs := by unfold whole32; rw [if_pos hl]
  rw [hw]
  clear hl hw
  go_enter Tryz.func118, Tryz.ntmps118
  go_wp2_with fail
  go_ret
  exact ⟨⟨_, _, rfl, hnc, hB.imp (fun _ _ h => .inl h)⟩, New.refl _⟩
 ·have hw : whole32 bs = List.replicate 32 0 := by unfold whole32; rw [if_neg (by omega)]
  have hne : ((n : Int) != 32) = true := by rw [bne_iff_ne]; omega
  have hmk : ∀ w, (Instr.makeSlice 25 (.int .i64 32) (.int .i64 32)).run Tryz.prog w = .ok (.slice (some ⟨w.heap.size, 0, none⟩) 32 32) (w.alloc (.cells (List.replicate 32 (Value.int .u8 0)).toArray 5)) := fun _ => by kernel_rfl
  rw [hw]
  clear hl hw
  go_enter Tryz.func118, Tryz.ntmps118
  go_wp2_with fail
  clear hmk
  go_ret
  exact ⟨⟨_, _, rfl, Nat.le_refl _, (Row.made w _ _ 32 1 rfl).imp (fun _ _ h => .inr h)⟩, (New.refl _).alloc _⟩
/-
  PROVED HERE: what permafrostref17.Seal answers: what segment.Seal does; conditions: lengths that a slice may have.
-/
set_option maxRecDepth 100000 in
set_option maxHeartbeats 2000000 in
theorem seal17_any (D D2 : Nat → Prop) (A A2 : Option Addr) (n c n2 c2 : Nat) (h : HeadP) (w : World) (hB : Bs w D A n h.prev) (hnc : n ≤ c) (hB2 : Bs w D2 A2 n2 h.root) (hnc2 : n2 ≤ c2) (hf0 : 0 ≤ h.first) (hf1 : h.first ≤ 18446744073709551615) :
  Calls Tryz.prog 77 #[.agg #[.int .i64 h.index, .int .u64 h.first, .int .i64 h.count, .int .i64 h.bytes, .slice A n c, .slice A2 n2 c2]] w fun e w' =>
   (∃ A' c', e = .returned (.slice A' 32 c') ∧ OwnB w' w.heap.size 5 A' 32 c' (sealOf h)) ∧ New w w' := by
 rcases h with ⟨ix, fi, co, by', pr, ro⟩
 dsimp only at hB hB2 hf0 hf1 ⊢
 have HX := Lib.hid (heap_alloc_new w (.cells #[.int .i64 ix, .int .u64 fi, .int .i64 co, .int .i64 by', .slice A n c, .slice A2 n2 c2] 94))
 have HN := Lib.hid (show New w (w.alloc (.cells #[.int .i64 ix, .int .u64 fi, .int .i64 co, .int .i64 by', .slice A n c, .slice A2 n2 c2] 94)) from (New.refl w).alloc _)
 have HS : Hid (sealOf ⟨ix, fi, co, by', pr, ro⟩ = shaSum ((((([2] ++ beI 2 ix) ++ beI 8 fi) ++ beI 2 co) ++ whole32 pr) ++ whole32 ro)) := Lib.hid (by
  unfold sealOf sealRow
  rw [show beI 1 2 = [2] from rfl])
 have HB := Lib.hid (hB.imp (E := fun b => b < w.heap.size) (fun b hb _ => hb))
 have HB2 := Lib.hid (hB2.imp (E := fun b => b < w.heap.size) (fun b hb _ => hb))
 obtain ⟨S, hS⟩ : ∃ S, S = shaSum ((((([2] ++ beI 2 ix) ++ beI 8 fi) ++ beI 2 co) ++ whole32 pr) ++ whole32 ro) := ⟨_, rfl⟩
 rw [HS.out, ← hS]
 have HSS := Lib.hid hS
 clear hB hB2 HS hS
 have hgw : w.heap.size < (w.alloc (.cells #[.int .i64 ix, .int .u64 fi, .int .i64 co, .int .i64 by', .slice A n c, .slice A2 n2 c2] 94)).heap.size := by simp
 go_enter Tryz.func77, Tryz.ntmps77
 go_wp2_with fail
 generalize w.alloc _ = w0 at *
 have y0 : ∀ W, New w0 W → W.cell? ⟨w.heap.size, 0, none⟩ = some (.int .i64 ix) := fun W h => cellOf (h.blockAt HX.out trivial) rfl
 have y1 : ∀ W, New w0 W → W.cell? ⟨w.heap.size, 1, none⟩ = some (.int .u64 fi) := fun W h => cellOf (h.blockAt HX.out trivial) rfl
 have y2 : ∀ W, New w0 W → W.cell? ⟨w.heap.size, 2, none⟩ = some (.int .i64 co) := fun W h => cellOf (h.blockAt HX.out trivial) rfl
 have hlit := bs_one w0.drew 5 2 _ rfl
 have hk0 : New w0.drew (w0.drew.alloc (.cells #[.int .u8 2] 5)) := (New.refl _).alloc _
 refine hold_begin (by kernel_rfl) ?_
 have n0 : New w0.drew w0.drew := New.refl _
 replace y0 := fun W (hW : New w0.drew W) => y0 W (Keep.new (Keep.drew (New.refl w0)) hW)
 replace y1 := fun W (hW : New w0.drew W) => y1 W (Keep.new (Keep.drew (New.refl w0)) hW)
 replace y2 := fun W (hW : New w0.drew W) => y2 W (Keep.new (Keep.drew (New.refl w0)) hW)
 refine take0 1 n0 ?_
 refine take0 2 n0 ?_
 refine take0 4 n0 ?_
 refine take0 5 n0 ?_
 refine take0 7 n0 ?_
 refine take0 8 n0 ?_
 refine hold_step0 (i := 0) (by kernel_rfl) rfl rfl (fun K hK => ?_)
 go_simp
 go_wp2_with fail
 have n1 := Keep.new n0 hk0
 refine hK.out _ _ n1 ?_
 clear hK K
 try simp only [Act.put, ly1, ly2, ly3, ly4, ly5, ly6]
 replace n0 := n1
 clear n1
 refine hold_step0 (i := 3) (by kernel_rfl) rfl rfl (fun K hK => ?_)
 go_simp
 refine (short4_any _ _ 1 1 [2] ix _ hlit (by decide)).mono ?_
 rintro e w2 ⟨⟨A2', c2', rfl, o2⟩, k2⟩
 go_wp2_with fail
 have n1 := Keep.new n0 k2
 refine hK.out _ _ n1 ?_
 clear hK K
 try simp only [Act.put, ly1, ly2, ly3, ly4, ly5, ly6]
 replace n0 := n1
 clear n1
 refine hold_step0 (i := 6) (by kernel_rfl) rfl rfl (fun K hK => ?_)
 go_simp
 refine (long4_any _ A2' _ c2' _ fi _ (Row.of_own o2) (by simp [beI_length]) hf0 hf1).mono ?_
 rintro e w3 ⟨⟨A3, c3, rfl, o3⟩, k3⟩
 go_wp2_with fail
 have n1 := Keep.new n0 k3
 refine hK.out _ _ n1 ?_
 clear hK K
 try simp only [Act.put, ly1, ly2, ly3, ly4, ly5, ly6]
 replace n0 := n1
 clear n1
 refine hold_step0 (i := 9) (by kernel_rfl) rfl rfl (fun K hK => ?_)
 go_simp
 refine (short4_any _ A3 _ c3 _ co _ (Row.of_own o3) (by simp [beI_length])).mono ?_
 rintro e w4 ⟨⟨A4, c4, rfl, o4⟩, k4⟩
 go_wp2_with fail
 have n1 := Keep.new n0 k4
 refine hK.out _ _ n1 ?_
 clear hK K
 try simp only [Act.put, ly1, ly2, ly3, ly4, ly5, ly6]
 replace n0 := n1
 clear n1
 refine take0 10 n0 ?_
 refine wpAnyH_done (by kernel_rfl) ?_ _
 have hm : (beI 2 ix).length + ((beI 8 fi).length + (beI 2 co).length) + 1 = 13 := by simp [beI_length]
 have hm2 : ([2] ++ beI 2 ix ++ beI 8 fi ++ beI 2 co).length = 13 := by simp [beI_length]
 rw [hm]
 rw [hm2] at o4
 have hK04 : New w0 w4 := Keep.new (Keep.drew (New.refl w0)) n0
 have hg3 : w0.heap.size ≤ w3.heap.size := Nat.le_trans (Nat.le_trans (show w0.heap.size ≤ (w0.drew.alloc (.cells #[byteVal 2] 5)).heap.size from hk0.size) k2.size) k3.size
 have O4 := Lib.hid (own_base (base := w0.heap.size) o4 hg3)
 have HX4 := Lib.hid (hK04.blockAt HX.out trivial)
 have HB4 := Lib.hid (HB.out.new (HN.out.new hK04))
 have HB24 := Lib.hid (HB2.out.new (HN.out.new hK04))
 have hK4 := HN.out.new hK04
 clear hm hm2 y0 y1 y2 hlit hk0 k2 k3 k4 o2 o3 o4 n0 HX HB HB2 hK04 hg3
 generalize [2] ++ beI 2 ix ++ beI 8 fi ++ beI 2 co = hd13 at *
 generalize hgb : w0.heap.size = gb at *
 go_wp2_with fail
 have y4 : ∀ W, Keep (Lo gb) w4.drew W → W.cell? ⟨w.heap.size, 4, none⟩ = some (.slice A n c) := fun W h => h.cell_some (a := w4.drew) (show w4.cell? _ = _ from cellOf HX4.out rfl) (by show w.heap.size < gb; omega)
 have y5 : ∀ W, Keep (Lo gb) w4.drew W → W.cell? ⟨w.heap.size, 5, none⟩ = some (.slice A2 n2 c2) := fun W h => h.cell_some (a := w4.drew) (show w4.cell? _ = _ from cellOf HX4.out rfl) (by show w.heap.size < gb; omega)
 have HH1 : Hid (∀ W, Keep (Lo gb) w4.drew W → Calls Tryz.prog 118 #[.slice A n c] W fun e w' => (∃ A' c', e = .returned (.slice A' 32 c') ∧ 32 ≤ c' ∧ Bs w' (fun b => b < w.heap.size ∨ W.heap.size ≤ b) A' 32 (whole32 pr)) ∧ New W w') :=
  Lib.hid fun W h => hash17_any _ A n c pr W (Row.keep (w := w4.drew) HB4.out h (fun b _ hb => by show b < gb; omega)) hnc
 have HH2 : Hid (∀ W, Keep (Lo gb) w4.drew W → Calls Tryz.prog 118 #[.slice A2 n2 c2] W fun e w' => (∃ A' c', e = .returned (.slice A' 32 c') ∧ 32 ≤ c' ∧ Bs w' (fun b => b < w.heap.size ∨ W.heap.size ≤ b) A' 32 (whole32 ro)) ∧ New W w') :=
  Lib.hid fun W h => hash17_any _ A2 n2 c2 ro W (Row.keep (w := w4.drew) HB24.out h (fun b _ hb => by show b < gb; omega)) hnc2
 have hgw4 : gb ≤ w4.heap.size := by
  have h1 := (own_base (base := gb) O4.out (Nat.le_refl _)).form (by decide)
  obtain ⟨g, cp, _, h2, h3⟩ := h1
  omega
 refine hold_beginS (Keep (Lo gb) w4.drew) (by kernel_rfl) ?_
 have n0 : Keep (Lo gb) w4.drew w4.drew := Keep.refl _ _
 refine take0 0 n0 ?_
 refine take0 1 n0 ?_
 refine take0 2 n0 ?_
 refine take0 5 n0 ?_
 refine take0 6 n0 ?_
 refine hold_step0 (i := 3) (by kernel_rfl) rfl rfl (fun K hK => ?_)
 go_simp
 refine (HH1.out _ n0).mono ?_
 rintro e w5 ⟨⟨A5, c5, rfl, hc5, hb5⟩, k5⟩; have o5 := Own.keepNew (w := w4) O4.out (Keep.new (Keep.drew (New.refl w4)) k5); have hz5 : gb ≤ w5.heap.size := Nat.le_trans hgw4 k5.size
 go_wp2_with fail
 have n1 := Keep.new n0 k5
 refine hK.out _ _ n1 ?_
 clear hK K
 try simp only [Act.put, ly1, ly2, ly3, ly4, ly5, ly6]
 replace n0 := n1
 clear n1
 refine hold_step0 (i := 4) (by kernel_rfl) rfl rfl (fun K hK => ?_)
 refine wp_bytes _ _ _ rfl gb A4 13 c4 _ rfl o5 _ A5 32 c5 _ rfl hb5 (by decide) hz5 ?_
 intro A6 c6 w6 o6 hg6 hbk6; have hz6 : gb ≤ w6.heap.size := Nat.le_trans hz5 hg6.size
 have n1 := n0.grown hg6 (fun k hk hd => absurd hd (by have := (own_lt o5 k hk).1; show ¬ k < gb; omega))
 refine hK.out _ _ n1 ?_
 clear hK K
 try simp only [Act.put, ly1, ly2, ly3, ly4, ly5, ly6]
 replace n0 := n1
 clear n1
 refine hold_step0 (i := 7) (by kernel_rfl) rfl rfl (fun K hK => ?_)
 go_simp
 refine (HH2.out _ n0).mono ?_
 rintro e w7 ⟨⟨A7, c7, rfl, hc7, hb7⟩, k7⟩; have o7 := Own.keepNew o6 k7; have hz7 : gb ≤ w7.heap.size := Nat.le_trans hz6 k7.size
 go_wp2_with fail
 have n1 := Keep.new n0 k7
 refine hK.out _ _ n1 ?_
 clear hK K
 try simp only [Act.put, ly1, ly2, ly3, ly4, ly5, ly6]
 replace n0 := n1
 clear n1
 refine hold_step0 (i := 8) (by kernel_rfl) rfl rfl (fun K hK => ?_)
 refine wp_bytes _ _ _ rfl gb A6 (13 + 32) c6 _ rfl o7 _ A7 32 c7 _ rfl hb7 (by decide) hz7 ?_
 intro A8 c8 w8 o8 hg8 hbk8; have hz8 : gb ≤ w8.heap.size := Nat.le_trans hz7 hg8.size
 have n1 := n0.grown hg8 (fun k hk hd => absurd hd (by have := (own_lt o7 k hk).1; show ¬ k < gb; omega))
 refine hK.out _ _ n1 ?_
 clear hK K
 try simp only [Act.put, ly1, ly2, ly3, ly4, ly5, ly6]
 replace n0 := n1
 clear n1
 refine hold_step0 (i := 9) (by kernel_rfl) rfl rfl (fun K hK => ?_)
 go_simp
 refine (refsum_any _ A8 _ c8 _ w8 (Row.of_own o8) (by decide)).mono ?_
 rintro e w9 ⟨⟨A9, c9, rfl, o9⟩, k9⟩
 go_wp2_with fail
 have n1 := Keep.new n0 k9
 refine hK.out _ _ n1 ?_
 clear hK K
 try simp only [Act.put, ly1, ly2, ly3, ly4, ly5, ly6]
 replace n0 := n1
 clear n1
 refine take0 10 n0 ?_
 refine wpAnyH_done (by kernel_rfl) ?_ _
 go_wp2_with fail
 go_ret
 have o9' := own_base (base := w.heap.size) o9 (show w.heap.size ≤ w8.heap.size by omega)
 rw [← HSS.out] at o9'
 refine ⟨⟨A9, c9, rfl, o9'⟩, ?_⟩
 have h1 : Keep (fun b => b < w.heap.size) w w4.drew := (Keep.of_new hK4).drew
 exact (Keep.trans2 h1 n0 (fun i _ hi => by show i < gb; omega)).toNew (fun i hi => hi)
/-
  PROVED HERE: slices of heads; what seal.Genesis and Head, permafrostref18.Genesis answer; conditions: lengths that a slice may have.
-/
def HeadAt (w : World) (D : Nat → Prop) (vs : List Value) (i : Nat) (h : HeadP) : Prop :=
 ∃ A c A2 c2, vs[i]? = some (.int .i64 h.index) ∧ vs[i + 1]? = some (.int .u64 h.first) ∧ vs[i + 2]? = some (.int .i64 h.count) ∧ vs[i + 3]? = some (.int .i64 h.bytes) ∧ vs[i + 4]? = some (.slice A h.prev.length c) ∧ vs[i + 5]? = some (.slice A2 h.root.length c2) ∧
  h.prev.length ≤ c ∧ h.root.length ≤ c2 ∧ Bs w D A h.prev.length h.prev ∧ Bs w D A2 h.root.length h.root ∧ 0 ≤ h.first ∧ h.first ≤ 18446744073709551615
theorem HeadAt.keep {w w' : World} {D E : Nat → Prop} {vs : List Value} {i : Nat} {h : HeadP} (hh : HeadAt w D vs i h) (hk : Keep E w w') (hE : ∀ b, b < w.heap.size → D b → E b) : HeadAt w' D vs i h := by
 obtain ⟨A, c, A2, c2, e0, e1, e2, e3, e4, e5, l1, l2, b1, b2, f⟩ := hh
 exact ⟨A, c, A2, c2, e0, e1, e2, e3, e4, e5, l1, l2, b1.keep hk hE, b2.keep hk hE, f⟩
theorem HeadAt.imp {w : World} {D E : Nat → Prop} {vs : List Value} {i : Nat} {h : HeadP} (hh : HeadAt w D vs i h) (hE : ∀ b, b < w.heap.size → D b → E b) : HeadAt w E vs i h := by
 obtain ⟨A, c, A2, c2, e0, e1, e2, e3, e4, e5, l1, l2, b1, b2, f⟩ := hh
 exact ⟨A, c, A2, c2, e0, e1, e2, e3, e4, e5, l1, l2, b1.imp hE, b2.imp hE, f⟩
def Heads (w : World) (D : Nat → Prop) (A : Option Addr) (n : Nat) (hs : List HeadP) : Prop :=
 ∃ vs : List Value, Row w D A n 6 vs ∧ hs.length = n ∧ ∀ k (h : k < hs.length), HeadAt w D vs (k * 6) hs[k]
section
variable {w w' : World} {D E : Nat → Prop} {A : Option Addr} {n : Nat} {hs : List HeadP}
theorem Heads.len (h : Heads w D A n hs) : hs.length = n := by obtain ⟨_, _, h, _⟩ := h; exact h
theorem Heads.keep (h : Heads w D A n hs) (hk : Keep E w w') (hE : ∀ b, b < w.heap.size → D b → E b) : Heads w' D A n hs := by
 obtain ⟨vs, h1, h2, h3⟩ := h
 exact ⟨vs, h1.keep hk hE, h2, fun k hk' => (h3 k hk').keep hk hE⟩
theorem Heads.new (h : Heads w D A n hs) (hk : New w w') : Heads w' D A n hs := h.keep hk fun _ _ _ => trivial
theorem Heads.imp (h : Heads w D A n hs) (hE : ∀ b, b < w.heap.size → D b → E b) : Heads w E A n hs := by
 obtain ⟨vs, h1, h2, h3⟩ := h
 exact ⟨vs, h1.imp hE, h2, fun k hk => (h3 k hk).imp hE⟩
theorem Heads.nil (w : World) (D : Nat → Prop) (A : Option Addr) : Heads w D A 0 [] := ⟨[], Row.nil w D A 6, rfl, fun k hk => absurd hk (by simp)⟩
theorem Heads.at_ (h : Heads w D A n hs) {k : Nat} (hk : k < hs.length) :
  ∃ b off A1 c1 A2 c2, A = some ⟨b, off, none⟩ ∧ D b ∧ w.cell? ⟨b, off + k * 6, none⟩ = some (.int .i64 hs[k].index) ∧ w.cell? ⟨b, off + k * 6 + 1, none⟩ = some (.int .u64 hs[k].first) ∧
   w.cell? ⟨b, off + k * 6 + 2, none⟩ = some (.int .i64 hs[k].count) ∧ w.cell? ⟨b, off + k * 6 + 3, none⟩ = some (.int .i64 hs[k].bytes) ∧ w.cell? ⟨b, off + k * 6 + 4, none⟩ = some (.slice A1 hs[k].prev.length c1) ∧
   w.cell? ⟨b, off + k * 6 + 5, none⟩ = some (.slice A2 hs[k].root.length c2) ∧ hs[k].prev.length ≤ c1 ∧ hs[k].root.length ≤ c2 ∧ Bs w D A1 hs[k].prev.length hs[k].prev ∧ Bs w D A2 hs[k].root.length hs[k].root ∧ 0 ≤ hs[k].first ∧ hs[k].first ≤ 18446744073709551615 := by
 obtain ⟨vs, h1, h2, h3⟩ := h
 obtain ⟨A1, c1, A2, c2, e0, e1, e2, e3, e4, e5, rest⟩ := h3 k hk
 obtain ⟨b, off, hA, hD, _, hcell⟩ := h1.2 (by omega)
 refine ⟨b, off, A1, c1, A2, c2, hA, hD, hcell _ _ e0, ?_, ?_, ?_, ?_, ?_, rest⟩
 ·rw [Nat.add_assoc]; exact hcell _ _ e1
 ·rw [Nat.add_assoc]; exact hcell _ _ e2
 ·rw [Nat.add_assoc]; exact hcell _ _ e3
 ·rw [Nat.add_assoc]; exact hcell _ _ e4
 ·rw [Nat.add_assoc]; exact hcell _ _ e5
end
def genesisOf (id : List UInt8) : List UInt8 := shaSum (3 :: id)
def headSeal (id : List UInt8) (hs : List HeadP) : List UInt8 := match hs.getLast? with | none => genesisOf id | some h => sealOf h
set_option maxRecDepth 100000 in
theorem genesis_any (D : Nat → Prop) (A : Option Addr) (n c : Nat) (bs : List UInt8) (w : World) (hB : Bs w D A n bs) (hc : n ≤ c) (hn : n ≤ 1099511620000) :
  Calls Tryz.prog 38 #[.slice A n c] w fun e w' => (∃ A' c', e = .returned (.slice A' 32 c') ∧ OwnB w' w.heap.size 5 A' 32 c' (genesisOf bs)) ∧ New w w' := by
 have hl := hB.len
 have h0 := bs_one w 5 3 _ rfl
 have hlit := (Bss.lit (w.alloc (.cells #[.int .u8 3] 5)) 25 [.slice (some ⟨w.heap.size, 0, none⟩) 1 1, .slice A n c] [[3], bs] rfl
  (fun k hk => match k, hk with | 0, _ => ⟨_, 1, rfl, by simp, _, h0⟩ | 1, _ => ⟨A, c, by simp [hl], by simp [hl]; exact hc, D, by simpa [hl] using hB.alloc _⟩))
 rw [show (w.alloc (.cells #[.int .u8 3] 5)).heap.size = w.heap.size + 1 from by simp] at hlit
 replace hlit := Lib.hid hlit
 have HF := Lib.hid (show ([[3], bs] : List (List UInt8)).flatten = 3 :: bs by simp)
 have HFL := Lib.hid (show ([[3], bs] : List (List UInt8)).flatten.length = n + 1 by simp [hl])
 have HN := Lib.hid (show New w ((w.alloc (.cells #[.int .u8 3] 5)).alloc (.cells #[.slice (some ⟨w.heap.size, 0, none⟩) 1 1, .slice A n c] 25)) from ((New.refl w).alloc _).alloc _)
 clear hl h0
 go_enter Tryz.func38, Tryz.ntmps38
 go_wp2_with fail
 refine (concat_any _ _ _ _ [[3], bs] _ hlit.out (by rw [HFL.out]; omega) (by simp)).mono ?_
 rintro e w2 ⟨⟨A', c', rfl, hown⟩, hK2⟩
 rw [HFL.out, HF.out] at hown
 rw [HFL.out]
 go_wp2_with fail
 refine (shaSum_any _ A' (n + 1) c' (3 :: bs) w2 (Row.of_own hown) (own_cap hown) (by omega)).mono ?_
 rintro e w3 ⟨⟨A3, c3, rfl, hown3⟩, hK3⟩
 go_wp2_with fail
 go_ret
 exact ⟨⟨A3, c3, rfl, own_base hown3 (HN.out.new hK2).size⟩, (HN.out.new hK2).new hK3⟩
set_option maxRecDepth 100000 in
theorem genesis18_any (D : Nat → Prop) (A : Option Addr) (n c : Nat) (bs : List UInt8) (w : World) (hB : Bs w D A n bs) (hn : n ≤ 1099511620000) :
  Calls Tryz.prog 76 #[.slice A n c] w fun e w' => (∃ A' c', e = .returned (.slice A' 32 c') ∧ OwnB w' w.heap.size 5 A' 32 c' (genesisOf bs)) ∧ New w w' := by
 have hown0 : OwnB (w.alloc (.cells #[.int .u8 3] 5)) w.heap.size 5 (some ⟨w.heap.size, 0, none⟩) 1 1 [3] := ownB_one w 3
 have hK0 : New w (w.alloc (.cells #[.int .u8 3] 5)) := (New.refl w).alloc _
 have hB0 := hB.alloc (.cells #[.int .u8 3] 5)
 have hbd : 1 + n ≤ 140737488355328 := by omega
 have hbd2 : 1 + n ≤ 1099511627776 := by omega
 clear hB
 go_enter Tryz.func76, Tryz.ntmps76
 go_wp2_with (at_builtin; refine app_bytes _ rfl _ _ rfl w.heap.size _ 1 1 [3] rfl hown0 D A n c bs rfl hB0 hbd hK0.size ?_; intro A1 c1 w1 hown1 hg1 hbk1)
 have hK1 := new_app0 hK0 hown0 hg1
 clear hg1 hbk1 hB0 hown0 hK0
 refine (refsum_any _ A1 (1 + n) c1 _ w1 (Row.of_own hown1) hbd2).mono ?_
 rintro e w2 ⟨⟨A2, c2, rfl, hown2⟩, hK2⟩
 go_wp2_with fail
 go_ret
 exact ⟨⟨_, _, rfl, own_base hown2 hK1.size⟩, hK1.new hK2⟩
theorem headSeal_nil (id : List UInt8) : headSeal id [] = genesisOf id := rfl
theorem headSeal_last (id : List UInt8) (hs : List HeadP) (h : hs.length - 1 < hs.length) : headSeal id hs = sealOf hs[hs.length - 1] := by
 unfold headSeal
 rw [List.getLast?_eq_getElem?, List.getElem?_eq_getElem h]
/-
  PROVED HERE: what permafrostref18.Head answers; conditions: lengths that a slice may have.
-/
set_option maxRecDepth 100000 in
set_option maxHeartbeats 1000000 in
theorem head18_any (D D2 : Nat → Prop) (A A2 : Option Addr) (n c n2 c2 : Nat) (id : List UInt8) (hs : List HeadP) (w : World) (hB : Bs w D A n id) (hn : n ≤ 1099511620000) (hH : Heads w D2 A2 n2 hs) (hn2 : n2 ≤ 9223372036854775807) :
  Calls Tryz.prog 50 #[.slice A n c, .slice A2 n2 c2] w fun e w' => (∃ A' c', e = .returned (.slice A' 32 c') ∧ OwnB w' w.heap.size 5 A' 32 c' (headSeal id hs)) ∧ New w w' := by
 have hl := hH.len
 by_cases h0 : n2 = 0
 ·subst h0
  obtain rfl : hs = [] := List.eq_nil_of_length_eq_zero hl
  rw [headSeal_nil]
  have HG := Lib.hid (genesis18_any D A n c id w hB hn)
  clear hl hH hB
  go_enter Tryz.func50, Tryz.ntmps50
  go_wp2_with fail
  refine HG.out.mono ?_
  rintro e w1 ⟨⟨A1, c1, rfl, ho⟩, hK⟩
  go_wp2_with fail
  go_ret
  exact ⟨⟨_, _, rfl, ho⟩, hK⟩
 ·have h0' : ((n2 : Int) == 0) = false := by simpa using h0
  have hlt : hs.length - 1 < hs.length := by omega
  obtain ⟨b, off, P1, p1, P2, p2, rfl, _, e0, e1, e2, e3, e4, e5, l1, l2, b1, b2, f0, f1⟩ := hH.at_ hlt
  have HS := Lib.hid (headSeal_last id hs hlt)
  generalize hs[hs.length - 1] = h at *
  rw [show hs.length - 1 = n2 - 1 from by omega] at e0 e1 e2 e3 e4 e5
  have HG := Lib.hid (seal17_any D2 D2 P1 P2 h.prev.length p1 h.root.length p2 h w b1 l1 b2 l2 f0 f1)
  have q1 : IntKind.i64.wrap ((n2 : Int) - 1) = ((n2 - 1 : Nat) : Int) := by rw [IntWalk.i64_in _ (by omega)]; omega
  have q2 : n2 - 1 < n2 := by omega
  rw [HS.out]
  clear hl hH hB l1 l2 b1 b2 f0 f1 h0 hlt
  go_enter Tryz.func50, Tryz.ntmps50
  go_wp2_with fail
  refine HG.out.mono ?_
  rintro e w1 ⟨⟨A1, c1, rfl, ho⟩, hK⟩
  go_wp2_with fail
  go_ret
  exact ⟨⟨_, _, rfl, ho⟩, hK⟩
/-
  PROVED HERE: rows of heads that a call makes, and the law of append at them; condition: fewer than 2^40 heads.
-/
theorem info_headR : (Tryz.prog.info? 94).map (fun i => (i.zero, i.size, i.bytes)) = some (some (.agg #[.int .i64 0, .int .u64 0, .int .i64 0, .int .i64 0, .slice none 0 0, .slice none 0 0]), 6, 80) := by kernel_rfl
def OwnHeadsR (w : World) (base : Nat) (D : Nat → Prop) (A : Option Addr) (n c : Nat) (hs : List HeadP) : Prop :=
 ∃ vs : List Value, Own w base 94 6 A n c vs ∧ hs.length = n ∧ ∀ k (h : k < hs.length), HeadAt w (fun b => D b ∧ some b ≠ blk A) vs (k * 6) hs[k]
section
variable {w w' : World} {base base' : Nat} {D E : Nat → Prop} {A : Option Addr} {n c : Nat} {hs : List HeadP}
theorem OwnHeadsR.nil (w : World) (base : Nat) (D : Nat → Prop) : OwnHeadsR w base D none 0 0 [] := ⟨[], Own.nil _ _ _ _, rfl, fun k hk => absurd hk (by simp)⟩
theorem OwnHeadsR.new (h : OwnHeadsR w base D A n c hs) (hk : New w w') : OwnHeadsR w' base D A n c hs := by
 obtain ⟨vs, h1, h2, h3⟩ := h
 exact ⟨vs, own_keep h1 hk (fun _ _ => trivial), h2, fun k hk' => (h3 k hk').keep hk fun _ _ _ => trivial⟩
theorem OwnHeadsR.len (h : OwnHeadsR w base D A n c hs) : hs.length = n := by obtain ⟨_, _, h, _⟩ := h; exact h
theorem OwnHeadsR.cap (h : OwnHeadsR w base D A n c hs) : n ≤ c := by obtain ⟨_, h, _⟩ := h; exact own_cap h
theorem OwnHeadsR.capMax (h : OwnHeadsR w base D A n c hs) : c ≤ 9223372036854775807 := by obtain ⟨_, h, _⟩ := h; exact own_capMax h
theorem OwnHeadsR.lt (h : OwnHeadsR w base D A n c hs) : ∀ k, blk A = some k → base ≤ k ∧ k < w.heap.size := by obtain ⟨_, h, _⟩ := h; exact own_lt h
theorem OwnHeadsR.keepE (h : OwnHeadsR w base D A n c hs) (hk : Keep E w w') (hb : ∀ k, blk A = some k → E k) (hD : ∀ b, D b → E b) : OwnHeadsR w' base D A n c hs := by
 obtain ⟨vs, h1, h2, h3⟩ := h
 exact ⟨vs, own_keep h1 hk hb, h2, fun k hk' => (h3 k hk').keep hk fun b _ hd => hD b hd.1⟩
theorem OwnHeadsR.heads (h : OwnHeadsR w base D A n c hs) : Heads w (fun b => base ≤ b ∨ D b) A n hs := by
 obtain ⟨vs, h1, h2, h3⟩ := h
 exact ⟨vs, (Row.of_own h1).imp (fun _ _ h => .inl h), h2, fun k hk => (h3 k hk).imp fun _ _ h => .inr h.1⟩
end
/-
  PROVED HERE: rows of heads that a call makes, and the law of append at them; condition: fewer than 2^40 heads.
-/
def OwnHeads (w : World) (base : Nat) (D : Nat → Prop) (A : Option Addr) (n c : Nat) (hs : List HeadP) : Prop :=
 ∃ vs : List Value, Own w base 81 6 A n c vs ∧ hs.length = n ∧ ∀ k (h : k < hs.length), HeadAt w (fun b => D b ∧ some b ≠ blk A) vs (k * 6) hs[k]
section
variable {w w' : World} {base base' : Nat} {D E : Nat → Prop} {A : Option Addr} {n c : Nat} {hs : List HeadP}
theorem OwnHeads.nil (w : World) (base : Nat) (D : Nat → Prop) : OwnHeads w base D none 0 0 [] := ⟨[], Own.nil _ _ _ _, rfl, fun k hk => absurd hk (by simp)⟩
theorem OwnHeads.new (h : OwnHeads w base D A n c hs) (hk : New w w') : OwnHeads w' base D A n c hs := by
 obtain ⟨vs, h1, h2, h3⟩ := h
 exact ⟨vs, own_keep h1 hk (fun _ _ => trivial), h2, fun k hk' => (h3 k hk').keep hk fun _ _ _ => trivial⟩
theorem OwnHeads.len (h : OwnHeads w base D A n c hs) : hs.length = n := by obtain ⟨_, _, h, _⟩ := h; exact h
theorem OwnHeads.cap (h : OwnHeads w base D A n c hs) : n ≤ c := by obtain ⟨_, h, _⟩ := h; exact own_cap h
theorem OwnHeads.capMax (h : OwnHeads w base D A n c hs) : c ≤ 9223372036854775807 := by obtain ⟨_, h, _⟩ := h; exact own_capMax h
theorem OwnHeads.lt (h : OwnHeads w base D A n c hs) : ∀ k, blk A = some k → base ≤ k ∧ k < w.heap.size := by obtain ⟨_, h, _⟩ := h; exact own_lt h
theorem OwnHeads.keepE (h : OwnHeads w base D A n c hs) (hk : Keep E w w') (hb : ∀ k, blk A = some k → E k) (hD : ∀ b, D b → E b) : OwnHeads w' base D A n c hs := by
 obtain ⟨vs, h1, h2, h3⟩ := h
 exact ⟨vs, own_keep h1 hk hb, h2, fun k hk' => (h3 k hk').keep hk fun b _ hd => hD b hd.1⟩
theorem OwnHeads.heads (h : OwnHeads w base D A n c hs) : Heads w (fun b => base ≤ b ∨ D b) A n hs := by
 obtain ⟨vs, h1, h2, h3⟩ := h
 exact ⟨vs, (Row.of_own h1).imp (fun _ _ h => .inl h), h2, fun k hk => (h3 k hk).imp fun _ _ h => .inr h.1⟩
end
/-
  PROVED HERE: the law of append of so many noughts onto a row of bytes of the call's own, for one operation alone; condition: fewer than 2^47 bytes.
-/
theorem zeroCells_u8 (k : Nat) : (Builtin.zeroCells (Value.int .u8 0).cells k).toList = (List.replicate k (0 : UInt8)).map byteVal := by
 simp [Builtin.zeroCells, Value.cells, byteVal, bv]
 apply List.ext_getElem
 ·simp
 ·intro i h1 h2; simp [Nat.mod_one]
set_option maxRecDepth 20000 in
theorem run_zeros_own (w : World) (ty : TypeId) (base : Nat) (A : Option Addr) (n c k : Nat) (bs : List UInt8) (hown : OwnB w base 5 A n c bs) (h63 : n + k ≤ 1099511627776) (hbase : base ≤ w.heap.size) :
  ∃ A' c' w', (Builtin.append_ #[25, 3] ty #[.slice A n c, .int .i64 (k : Int)]).run Tryz.prog w = .ok (.slice A' (n + k) c') w' ∧ OwnB w' base 5 A' (n + k) c' (bs ++ List.replicate k 0) ∧ w.grownBy w' (blk A) ∧
   (blk A' = blk A ∨ blk A' = some w.heap.size) := by
 obtain ⟨i, hi, hz0, hz1, hz2⟩ := info_parts info_u8
 have ht := Tryz.underlying25
 have htn := Tryz.underlying3
 have hbl : bs.length = n := by have := hown.1; simpa using this
 have hw : IntKind.i64.wrap (k : Int) = k := IntWalk.i64_in _ (by omega)
 have hk0 : ¬ ((k : Int) < 0) := by omega
 have hk48 : ¬ (281474976710656 < (k : Int)) := by omega
 by_cases hroom : n + k ≤ c
 ·rcases hown.2 with ⟨hv, hxs⟩ | ⟨g, cap, cur, hv, hbg, hg, hnc, hcm, hcs, htake⟩
  ·injection hv with h1 h2 h3
   subst h1; subst h2; subst h3
   obtain rfl : k = 0 := by omega
   have hb : bs = [] := List.eq_nil_of_length_eq_zero hbl
   subst hb
   refine ⟨none, 0, w, ?_, Own.nil _ _ _ _, World.grownBy.refl w _, .inl rfl⟩
   have e0 : IntKind.i64.wrap 0 = 0 := IntWalk.i64_in _ (by decide)
   simp [Builtin.append_, run_underlying ht, run_underlying htn, sizeOf, typeInfo, zeroValue, hi, hz0, hz2, asInt, asIntOf, e0]
  ·injection hv with h1 h2 h3
   subst h1; subst h3
   have hfit : n + k ≤ cur.size := by omega
   have hst := run_storeCells_at Tryz.prog g n 5 ((List.replicate k (0 : UInt8)).map byteVal) 0 cur w hg (by simp; omega) (byteVal_one _)
   simp only [Nat.add_zero] at hst
   refine ⟨some ⟨g, 0, none⟩, c, w.setRow g (cur.toList.take n ++ (List.replicate k (0 : UInt8)).map byteVal ++ cur.toList.drop (n + k)).toArray, ?_, ?_, ?_, .inl rfl⟩
   ·by_cases hk : k = 0
    ·subst hk
     have e0 : IntKind.i64.wrap 0 = 0 := IntWalk.i64_in _ (by decide)
     simp at hst
     simp [Builtin.append_, run_underlying ht, run_underlying htn, sizeOf, typeInfo, zeroValue, hi, hz0, hz1, hz2, asInt, asIntOf, e0, hnc, hst, Addr.add_lit]
    ·have hz := zeroCells_u8 k
     simp [Builtin.append_, run_underlying ht, run_underlying htn, sizeOf, typeInfo, zeroValue, hi, hz0, hz1, hz2, asInt, asIntOf, hw, hk0, hk48, hroom, hk, hz, Addr.add_lit]
     simp at hst
     simp [hst]
   ·refine ⟨by simp [hbl], .inr ⟨g, c, _, rfl, hbg, setRow_heap w g cur _ 5 _ hg, hroom, hcm, ?_, ?_⟩⟩
    ·simp; omega
    ·have htk : cur.toList.take n = bs.map byteVal := by simpa using htake
     have hl : (bs.map byteVal ++ (List.replicate k (0 : UInt8)).map byteVal).length = (n + k) * 1 := by simp [hbl]
     rw [htk, List.map_append, List.toList_toArray, ← hl, List.take_left]
   ·exact ⟨rfl, rfl, rfl, by simp, fun j _ hj => setRow_other w g j _ (fun e => hj (by rw [e]; rfl))⟩
 ·have hold : (Builtin.firstCells i.size n (.slice A n c)).run Tryz.prog w.drew = .ok (bs.map byteVal).toArray w.drew := by
   rcases hown.2 with ⟨hv, hxs⟩ | ⟨g, cap, cur, hv, hbg, hg, hnc, hcm, hcs, htake⟩
   ·injection hv with h1 h2 h3
    subst h1; subst h2
    have hb : bs = [] := List.eq_nil_of_length_eq_zero hbl
    subst hb
    simp [Builtin.firstCells]
   ·injection hv with h1 h2 h3
    subst h1
    exact run_firstCells_some w.drew i.size n ⟨g, 0, none⟩ n c _ (by simp [hbl, hz1]) (by intro j u hu; simpa using hown.cells (g := g) rfl j u hu)
  have hcapfit : Builtin.nextslicecap (n + k) c * i.bytes ≤ 281474976710656 := by
   rw [hz2]
   exact growslice_fits (by omega) (by omega)
  have hr := Lib.run_append_grow_zeros w 25 3 ty 5 i (.int .u8 0) .i64 .i64 ht htn hi hz0 A n c (bs.map byteVal) hold k (by have := own_cap hown; omega) (by omega) (by omega) (by omega) (by rw [hz2]; omega) hcapfit
  have hge := Go.grownCap_ge w (n + k) c 5
  have hle := Go.grownCap_le_maxLen w (n + k) c 5 (by unfold maxLen; omega)
  refine ⟨_, _, _, hr, ⟨by simp [hbl], .inr ⟨w.heap.size, _, _, rfl, hbase, heap_alloc_new w.drew _, hge, hle, ?_, ?_⟩⟩, ⟨rfl, rfl, rfl, by simp, fun j hj _ => Below.heap_alloc w.drew _ j hj⟩, .inr rfl⟩
  ·simp [Builtin.zeroCells, Value.cells, hbl]; omega
  ·have hl : (bs.map byteVal ++ (List.replicate k (0 : UInt8)).map byteVal).length = (n + k) * 1 := by simp [hbl]
   simp only [Array.toList_append, zeroCells_u8]
   rw [List.map_append, ← hl]
   exact List.take_left
theorem wp_zeros {o : Oper} {a : Act} {K : Act → World → Prop} {Q : Exit → Act → World → Prop} (w : World) (s x : Operand)
  (ho : o.op = .call { callee := .builtin .append, args := #[s, x], argTypes := #[25, 3] })
  (base : Nat) (A : Option Addr) (n c k : Nat) (bs : List UInt8) (hs : a.eval s = .slice A n c) (hown : OwnB w base 5 A n c bs) (hx : a.eval x = .int .i64 (k : Int))
  (h63 : n + k ≤ 1099511627776) (hbase : base ≤ w.heap.size)
  (h : ∀ A' c' w', OwnB w' base 5 A' (n + k) c' (bs ++ List.replicate k 0) → w.grownBy w' (blk A) → (blk A' = blk A ∨ blk A' = some w.heap.size) → K (a.put o.dst (.slice A' (n + k) c')) w') : o.wp Tryz.prog a w K Q := by
 obtain ⟨A', c', w', hr, h2, h3, h4⟩ := run_zeros_own w o.type base A n c k bs hown h63 hbase
 unfold Oper.wp execOp
 simp only [ho, resolve, invoke, builtin, Sem.run_bind, Sem.run_pure, Result.andThen_ok, List.map_toArray, List.map_cons, List.map_nil, hs, hx, hr]
 exact h A' c' w' h2 h3 h4
theorem app_zeros {ops : Array Oper} {rest : List Oper} {o : Oper} {a : Act} {Q : Exit → Act → World → Prop} (w : World) (hgd : o.guard = none) (s x : Operand)
  (ho : o.op = .call { callee := .builtin .append, args := #[s, x], argTypes := #[25, 3] })
  (base : Nat) (A : Option Addr) (n c k : Nat) (bs : List UInt8) (hs : a.eval s = .slice A n c) (hown : OwnB w base 5 A n c bs) (hx : a.eval x = .int .i64 (k : Int))
  (h63 : n + k ≤ 1099511627776) (hbase : base ≤ w.heap.size)
  (h : ∀ A' c' w', OwnB w' base 5 A' (n + k) c' (bs ++ List.replicate k 0) → w.grownBy w' (blk A) → (blk A' = blk A ∨ blk A' = some w.heap.size) → wpList Tryz.prog ops Q rest (a.put o.dst (.slice A' (n + k) c')) w') : wpList Tryz.prog ops Q (o :: rest) a w :=
 wpList_plain hgd fun _ hK => wp_zeros w s x ho base A n c k bs hs hown hx h63 hbase fun A' c' w' h2 h3 h4 => hK _ _ (h A' c' w' h2 h3 h4)
/-
  PROVED HERE: what segment.Build answers, for any arguments; conditions: lengths that a slice may have.
-/
def buildOf (index first : Int) (pr : List UInt8) (rs : List RecP) : List UInt8 × Int :=
 if buildArgs index first pr.length rs = false then ([], 1) else if seqsFrom first rs = false then ([], 12) else (segBytes index first pr rs, 0)
def BuildRet (d : List UInt8 × Int) (w : World) (e : Ending) (w' : World) : Prop :=
 (∃ A' c', e = .returned (.tuple #[.slice A' d.1.length c', .int .i64 d.2]) ∧ OwnB w' w.heap.size 5 A' d.1.length c' d.1) ∧ New w w'
theorem build_any (D D2 : Nat → Prop) (index first : Int) (A A2 : Option Addr) (c m c2 : Nat) (pr : List UInt8) (rs : List RecP) (w : World) (hB : Bs w D A pr.length pr) (hnc : pr.length ≤ c) (hR : Recs w D2 A2 m rs) (hm : m ≤ 9223372036854775807) (hf0 : 0 ≤ first) :
  Calls Tryz.prog 55 #[.int .i64 index, .int .u64 first, .slice A pr.length c, .slice A2 m c2] w (BuildRet (buildOf index first pr rs) w) := by
 cases h : buildArgs index first pr.length rs
 ·refine (build_arg D D2 index first A A2 pr.length c m c2 rs w hR hm h).mono ?_
  rintro e w' ⟨rfl, hK⟩
  unfold buildOf
  rw [if_pos h]
  exact ⟨⟨none, 0, rfl, Own.nil _ _ _ _⟩, hK⟩
 ·cases hq : seqsFrom first rs
  ·refine (build_form D D2 index first A A2 pr.length c m c2 pr rs w hB hnc hR hm hf0 h hq).mono ?_
   rintro e w' ⟨rfl, hK⟩
   unfold buildOf
   rw [if_neg (by rw [h]; decide), if_pos hq]
   exact ⟨⟨none, 0, rfl, Own.nil _ _ _ _⟩, hK⟩
  ·refine (build_ok D D2 index first A A2 pr.length c m c2 pr rs w hB hnc hR hm hf0 h hq).mono ?_
   rintro e w' ⟨⟨A', c', rfl, ho⟩, hK⟩
   have hl : (segBytes index first pr rs).length = 1024 := by simpa using ho.1
   unfold buildOf
   rw [if_neg (by rw [h]; decide), if_neg (by rw [hq]; decide)]
   refine ⟨⟨A', c', ?_, ?_⟩, hK⟩
   ·dsimp only; rw [hl]
   ·dsimp only; rw [hl]; exact ho
/-
  PROVED HERE: which arguments permafrostref17.Build refuses; conditions: lengths that a slice may have.
-/
set_option maxRecDepth 100000 in
theorem build17_args1 (_D D2 : Nat → Prop) (index first : Int) (A A2 : Option Addr) (n c m c2 : Nat) (rs : List RecP) (w : World) (_hR : Recs w D2 A2 m rs) (_hm : m ≤ 9223372036854775807) (h1 : index < 0) :
  Calls Tryz.prog 53 #[.int .i64 index, .int .u64 first, .slice A n c, .slice A2 m c2] w fun e w' => e = .returned (.tuple #[.slice none 0 0, .int .i64 1]) ∧ New w w' := by
 clear _hR
 go_enter Tryz.func53, Tryz.ntmps53
 go_wp2_with fail
 go_ret2
 exact ⟨rfl, New.refl _⟩
set_option maxRecDepth 100000 in
theorem build17_args2 (_D D2 : Nat → Prop) (index first : Int) (A A2 : Option Addr) (n c m c2 : Nat) (rs : List RecP) (w : World) (_hR : Recs w D2 A2 m rs) (_hm : m ≤ 9223372036854775807) (h1 : ¬ (index < 0)) (h2 : 65535 < index) :
  Calls Tryz.prog 53 #[.int .i64 index, .int .u64 first, .slice A n c, .slice A2 m c2] w fun e w' => e = .returned (.tuple #[.slice none 0 0, .int .i64 1]) ∧ New w w' := by
 clear _hR
 go_enter Tryz.func53, Tryz.ntmps53
 go_wp2_with fail
 go_ret2
 exact ⟨rfl, New.refl _⟩
set_option maxRecDepth 100000 in
theorem build17_args3 (_D D2 : Nat → Prop) (index first : Int) (A A2 : Option Addr) (n c m c2 : Nat) (rs : List RecP) (w : World) (_hR : Recs w D2 A2 m rs) (_hm : m ≤ 9223372036854775807) (h1 : ¬ (index < 0)) (h2 : ¬ (65535 < index)) (h3 : 1099511627776 < first) :
  Calls Tryz.prog 53 #[.int .i64 index, .int .u64 first, .slice A n c, .slice A2 m c2] w fun e w' => e = .returned (.tuple #[.slice none 0 0, .int .i64 1]) ∧ New w w' := by
 clear _hR
 go_enter Tryz.func53, Tryz.ntmps53
 go_wp2_with fail
 go_ret2
 exact ⟨rfl, New.refl _⟩
set_option maxRecDepth 100000 in
theorem build17_args4 (_D D2 : Nat → Prop) (index first : Int) (A A2 : Option Addr) (n c m c2 : Nat) (rs : List RecP) (w : World) (_hR : Recs w D2 A2 m rs) (_hm : m ≤ 9223372036854775807) (h1 : ¬ (index < 0)) (h2 : ¬ (65535 < index)) (h3 : ¬ (1099511627776 < first)) (h4 : n ≠ 32) :
  Calls Tryz.prog 53 #[.int .i64 index, .int .u64 first, .slice A n c, .slice A2 m c2] w fun e w' => e = .returned (.tuple #[.slice none 0 0, .int .i64 1]) ∧ New w w' := by
 have h4' : ((n : Int) != 32) = true := by simp; omega
 clear _hR
 clear h4
 go_enter Tryz.func53, Tryz.ntmps53
 go_wp2_with fail
 go_ret2
 exact ⟨rfl, New.refl _⟩
set_option maxRecDepth 100000 in
theorem build17_args5 (_D D2 : Nat → Prop) (index first : Int) (A A2 : Option Addr) (n c m c2 : Nat) (rs : List RecP) (w : World) (_hR : Recs w D2 A2 m rs) (_hm : m ≤ 9223372036854775807) (h1 : ¬ (index < 0)) (h2 : ¬ (65535 < index)) (h3 : ¬ (1099511627776 < first)) (h4 : ¬ (n ≠ 32)) (h5 : m = 0) :
  Calls Tryz.prog 53 #[.int .i64 index, .int .u64 first, .slice A n c, .slice A2 m c2] w fun e w' => e = .returned (.tuple #[.slice none 0 0, .int .i64 1]) ∧ New w w' := by
 have h4' : ((n : Int) != 32) = false := by simp; omega
 have h5' : ((m : Int) == 0) = true := by simp; omega
 clear _hR
 clear h4
 clear h5
 go_enter Tryz.func53, Tryz.ntmps53
 go_wp2_with fail
 go_ret2
 exact ⟨rfl, New.refl _⟩
set_option maxRecDepth 100000 in
theorem build17_args6 (_D D2 : Nat → Prop) (index first : Int) (A A2 : Option Addr) (n c m c2 : Nat) (rs : List RecP) (w : World) (hR : Recs w D2 A2 m rs) (hm : m ≤ 9223372036854775807) (h1 : ¬ (index < 0)) (h2 : ¬ (65535 < index)) (h3 : ¬ (1099511627776 < first)) (h4 : ¬ (n ≠ 32)) (h5 : ¬ (m = 0)) (h6 : fitsIn 942 rs < m) :
  Calls Tryz.prog 53 #[.int .i64 index, .int .u64 first, .slice A n c, .slice A2 m c2] w fun e w' => e = .returned (.tuple #[.slice none 0 0, .int .i64 1]) ∧ New w w' := by
 have h4' : ((n : Int) != 32) = false := by simp; omega
 have h5' : ((m : Int) == 0) = false := by simp; omega
 have h6' : ((fitsIn 942 rs : Nat) : Int) < m := by omega
 have HF := Lib.hid (fun w' hN => fits17_any D2 A2 m c2 rs w' (hR.new (w' := w') hN) hm)
 clear hR
 clear h4
 clear h5
 go_enter Tryz.func53, Tryz.ntmps53
 go_wp2_with fail
 refine (HF.out _ (New.refl _)).mono ?_
 rintro e w1 ⟨rfl, hK1⟩
 go_wp2_with fail
 go_ret2
 exact ⟨rfl, hK1⟩
set_option maxRecDepth 100000 in
theorem build17_arg (D D2 : Nat → Prop) (index first : Int) (A A2 : Option Addr) (n c m c2 : Nat) (rs : List RecP) (w : World) (hR : Recs w D2 A2 m rs) (hm : m ≤ 9223372036854775807) (h : buildArgs index first n rs = false) :
  Calls Tryz.prog 53 #[.int .i64 index, .int .u64 first, .slice A n c, .slice A2 m c2] w fun e w' => e = .returned (.tuple #[.slice none 0 0, .int .i64 1]) ∧ New w w' := by
 have hl := hR.len
 unfold buildArgs at h
 rw [decide_eq_false_iff_not, hl] at h
 by_cases h1 : index < 0
 ·exact build17_args1 D D2 index first A A2 n c m c2 rs w hR hm h1
 by_cases h2 : 65535 < index
 ·exact build17_args2 D D2 index first A A2 n c m c2 rs w hR hm h1 h2
 by_cases h3 : 1099511627776 < first
 ·exact build17_args3 D D2 index first A A2 n c m c2 rs w hR hm h1 h2 h3
 by_cases h4 : n ≠ 32
 ·exact build17_args4 D D2 index first A A2 n c m c2 rs w hR hm h1 h2 h3 h4
 by_cases h5 : m = 0
 ·exact build17_args5 D D2 index first A A2 n c m c2 rs w hR hm h1 h2 h3 h4 h5
 exact build17_args6 D D2 index first A A2 n c m c2 rs w hR hm h1 h2 h3 h4 h5 (by omega)
/-
  PROVED HERE: what permafrostref17.Build answers: what segment.Build does; conditions: lengths that a slice may have.
-/
theorem Recs.at3' {w : World} {D : Nat → Prop} {A : Option Addr} {n : Nat} {rs : List RecP} (h : Recs w D A n rs) {k : Nat} (hk : k < rs.length) :
  ∃ b off A' c', A = some ⟨b, off, none⟩ ∧ D b ∧ w.cell? ⟨b, off + k * 3, none⟩ = some (.int .i64 rs[k].kind) ∧ w.cell? ⟨b, off + k * 3 + 1, none⟩ = some (.int .u64 rs[k].seq) ∧
   w.cell? ⟨b, off + k * 3 + 2, none⟩ = some (.slice A' rs[k].body.length c') ∧ rs[k].body.length ≤ c' ∧ Bs w D A' rs[k].body.length rs[k].body ∧ 0 ≤ rs[k].seq ∧ rs[k].seq ≤ 18446744073709551615 := by
 obtain ⟨vs, h1, h2, h3⟩ := h
 obtain ⟨A', c', e1, e2, e3, hc, hb, h5, h6, h7⟩ := h3 k hk
 obtain ⟨b, off, hA, hD, _, hcell⟩ := h1.2 (by omega)
 refine ⟨b, off, A', c', hA, hD, hcell _ _ e1, ?_, ?_, hc, hb, h5, h6⟩
 ·rw [Nat.add_assoc]; exact hcell _ _ e2
 ·rw [Nat.add_assoc]; exact hcell _ _ e3
theorem leaves_more {rs : List RecP} (hr : ∀ r ∈ rs, recRight r = true) {k : Nat} (hk : k < rs.length) : (leavesOf (rs.take (k + 1))).flatten = (leavesOf (rs.take k)).flatten ++ recEnc rs[k] := by
 rw [leaves_take rs k hk, if_pos (hr _ (List.getElem_mem hk)), List.flatten_append, List.flatten_singleton]
theorem leaves_part (rs : List RecP) (k : Nat) : (leavesOf (rs.take k)).flatten.length ≤ (leavesOf rs).flatten.length := by
 have h : leavesOf rs = leavesOf (rs.take k) ++ leavesOf (rs.drop k) := by
  unfold leavesOf
  rw [← List.map_append, List.take_append_drop]
 rw [h, List.flatten_append, List.length_append]
 exact Nat.le_add_right _ _
theorem seqs_bad {first : Int} {rs : List RecP} {k : Nat} (hk : k < rs.length) (h : rs[k].seq ≠ first + k) : seqsFrom first rs = false := by
 rw [← Bool.not_eq_true, seqsFrom_iff]
 exact fun h' => h (h' k hk)
set_option maxRecDepth 100000 in
set_option maxHeartbeats 4000000 in
theorem build17_go (D D2 : Nat → Prop) (index first : Int) (A A2 : Option Addr) (c m c2 : Nat) (pr : List UInt8) (rs : List RecP) (w : World) (hB : Bs w D A 32 pr) (_hnc : 32 ≤ c) (hR : Recs w D2 A2 m rs) (hf0 : 0 ≤ first)
  (h1 : ¬ index < 0) (h2 : ¬ 65535 < index) (h3 : ¬ 1099511627776 < first) (hm0 : m ≠ 0) (hfit : ¬ fitsIn 942 rs < m) (hm62 : m ≤ 62) (hr : ∀ r ∈ rs, recRight r = true) (hroom : (leavesOf rs).flatten.length ≤ 942) :
  Calls Tryz.prog 53 #[.int .i64 index, .int .u64 first, .slice A 32 c, .slice A2 m c2] w (BuildRet (if seqsFrom first rs = false then ([], 12) else (segBytes index first pr rs, 0)) w) := by
 have HL := Lib.hid hR.len
 have h5' : ((m : Int) == 0) = false := by simpa using hm0
 have h6' : ¬ ((fitsIn 942 rs : Nat) : Int) < (m : Int) := by omega
 have HF := Lib.hid (fun w' hN => fits17_any D2 A2 m c2 rs w' (hR.new (w' := w') hN) (by omega))
 have HR := Lib.hid (hR.imp (E := fun b => b < w.heap.size) fun b hb _ => hb)
 have HB := Lib.hid (hB.imp (E := fun b => b < w.heap.size) fun b hb _ => hb)
 have HRI := Lib.hid hr
 have HRO := Lib.hid hroom
 have HM0 := Lib.hid hm0
 clear hR hB hr hroom hm0 hfit
 generalize fitsIn 942 rs = fi at *
 obtain ⟨d, hd⟩ : ∃ d, d = (if seqsFrom first rs = false then (([] : List UInt8), (12 : Int)) else (segBytes index first pr rs, 0)) := ⟨_, rfl⟩
 rw [← hd]
 have HD := Lib.hid hd
 clear hd
 go_enter Tryz.func53, Tryz.ntmps53
 go_wp2_with fail
 refine (HF.out _ (New.refl _)).mono ?_
 rintro e w1 ⟨rfl, n0⟩
 go_wp2_with fail
 have HK1 := Lib.hid n0
 have hdf : decide (fi < m) = false := by simp; omega
 simp only [hdf]
 clear HF n0 hdf h6'
 go_loopw [10, 11] (fun s10 i wx => ∃ (k L : Nat) (A' : Option Addr) (c' : Nat) (bs : List UInt8), k ≤ m ∧ i = .int .i64 (k : Int) ∧ s10 = .slice A' L c' ∧ L ≤ 942 ∧ bs = (leavesOf (rs.take k)).flatten ∧ OwnB wx w.heap.size 5 A' L c' bs ∧ (∀ j (h : j < rs.length), j < k → rs[j].seq = first + j) ∧ New w wx) (fun _ i _ => m - (intOf i).toNat)
 case atStart => exact ⟨0, 0, none, 0, [], Nat.zero_le _, rfl, rfl, Nat.zero_le _, by simp [leavesOf], Own.nil _ _ _ _, fun j h hj => absurd hj (by omega), HK1.out⟩
 case round =>
  obtain ⟨k, L, A', c', bs, hk, rfl, rfl, hL, hbs, hown, hsq, hK⟩ := hrel
  have HBS := Lib.hid hbs
  have HSQ := Lib.hid hsq
  have HK := Lib.hid hK
  have HO := Lib.hid hown
  clear hbs hsq hK hown
  by_cases hlt : k < m
  ·have hkl : k < rs.length := by have := HL.out; omega
   obtain ⟨b, off, B, d, rfl, hbb, u0, u1, u2, hbd, hbb2, hs0, hs1⟩ := (HR.out.new HK.out).at3' hkl
   have hri := HRI.out rs[k] (List.getElem_mem hkl)
   have hel : (recEnc rs[k]).length = 15 + rs[k].body.length := by rw [recEnc_size _ hri]; unfold recSize; rw [if_pos hri]
   have HMO := Lib.hid (leaves_more HRI.out hkl)
   have hpart := leaves_part rs (k + 1)
   rw [HMO.out, ← HBS.out, List.length_append, hel, show bs.length = L from by simpa using HO.out.1] at hpart
   have hL2 : L + (15 + rs[k].body.length) ≤ 942 := Nat.le_trans hpart HRO.out
   have HSB := Lib.hid (seqs_bad (first := first) hkl)
   have HSK : Hid (rs[k].seq = first + k → ∀ j (h : j < rs.length), j < k + 1 → rs[j].seq = first + j) := Lib.hid (by
    intro e j h hj
    by_cases hjk : j = k
    ·subst hjk; exact e
    ·exact HSQ.out j h (by omega))
   have HEN := Lib.hid (fun W (hW : New wr W) => encode16_any _ B rs[k].body.length d rs[k] W (hbb2.new hW) hbd (by omega) hs0 hs1)
   clear hpart hbb2 hri
   generalize rs[k] = r at *
   have hk1 : IntKind.u64.wrap (k : Int) = (k : Int) := by rw [IntKind.wrap_u64]; omega
   have hk2 : IntKind.u64.wrap (first + (k : Int)) = first + (k : Int) := by rw [IntKind.wrap_u64]; omega
   have HEL := Lib.hid hel
   clear hel
   by_cases hse : r.seq = first + k
   ·have hse' : (r.seq != first + (k : Int)) = false := by simpa using hse
    have HSE := Lib.hid (HSK.out hse)
    clear hse HSB HSK
    go_wp2_with fail
    refine (HEN.out _ (New.refl _)).mono ?_
    rintro e w2 ⟨⟨A3, c3, rfl, o3⟩, hK2⟩
    have ho2 := Own.keepNew HO.out hK2
    have hb2 : L + (recEnc r).length ≤ 140737488355328 := by rw [HEL.out]; omega
    have hsz2 : w.heap.size ≤ w2.heap.size := Nat.le_trans HK.out.size hK2.size
    go_wp2_with (at_builtin; refine app_bytes _ rfl _ _ rfl w.heap.size A' L c' bs rfl ho2 _ A3 _ c3 _ rfl (Row.of_own o3) hb2 hsz2 ?_; intro A4 c4 w4 hown4 hg4 hbk4)
    go_roundw
    case rel => exact ⟨k + 1, L + (recEnc r).length, A4, c4, _, by omega, by go_num, rfl, by rw [HEL.out]; exact hL2, by rw [HBS.out, HMO.out], hown4, HSE.out, (HK.out.new hK2).grown hg4 (fun j hj _ => (own_lt ho2 j hj).1)⟩
    case measure => simp [intOf]; omega
   ·have hse' : (r.seq != first + (k : Int)) = true := by simpa using hse
    have HSE := Lib.hid (HSB.out hse)
    clear hse HSB HSK
    go_wp2_with fail
    have hd := HD.out
    rw [if_pos HSE.out] at hd
    refine bodyPost_ret (v := .tuple #[.slice none 0 0, .int .i64 12]) (by simp [results, Tryz.results53, go_sem]) rfl ?_
    rw [hd]
    exact ⟨⟨none, 0, rfl, Own.nil _ _ _ _⟩, HK.out⟩
  ·obtain rfl : k = m := by omega
   have hbl : bs = (leavesOf rs).flatten := by rw [HBS.out, List.take_of_length_le (by rw [HL.out]; exact Nat.le_refl _)]
   have hll : (leavesOf rs).flatten.length = L := by rw [← hbl]; simpa using HO.out.1
   have hseq : seqsFrom first rs = true := by rw [seqsFrom_iff]; exact fun j h => HSQ.out j h (by rw [← HL.out]; exact h)
   have hd := HD.out
   rw [if_neg (by rw [hseq]; decide)] at hd
   have HSEG : Hid (segBytes index first pr rs = [] ++ beI 2 index ++ beI 8 first ++ beI 2 (k : Int) ++ beI 2 (L : Int) ++ pr ++ rootOf (leavesOf rs) ++ be4 (crcSum ([] ++ beI 2 index ++ beI 8 first ++ beI 2 (k : Int) ++ beI 2 (L : Int) ++ pr ++ rootOf (leavesOf rs))) ++ bs ++ List.replicate (942 - L) 0) := Lib.hid (by
    unfold segBytes segHead
    rw [hll, hbl, HL.out]
    simp only [List.nil_append])
   have hlen : (segBytes index first pr rs).length = 1024 := segBytes_length index first pr rs (Bs.len HB.out) HRO.out
   have HLEN := Lib.hid hlen
   generalize segBytes index first pr rs = S at *
   subst hd
   have HBL := Lib.hid hbl
   clear hbl hll hseq hlen HSQ HBS HD
   have hsz : w.heap.size ≤ wr.heap.size := HK.out.size
   go_wp2_with fail
   refine (short4_any (fun _ => True) none 0 0 [] index wr (Row.nil _ _ _ _) (by decide)).mono ?_
   rintro e w2 ⟨⟨A2', d2, rfl, o2⟩, k2⟩
   have l2 : ([] ++ beI 2 index).length = 2 := by simp [beI_length]
   rw [l2] at o2 ⊢
   generalize [] ++ beI 2 index = b2 at *
   go_wp2_with fail
   refine (long4_any _ A2' 2 d2 b2 first w2 (Row.of_own o2) (by decide) hf0 (by omega)).mono ?_
   rintro e w3 ⟨⟨A3, d3, rfl, o3⟩, k3⟩
   have l3 : (b2 ++ beI 8 first).length = 10 := by rw [List.length_append, l2, beI_length]
   rw [l3] at o3 ⊢
   generalize b2 ++ beI 8 first = b3 at *
   clear l2 o2
   go_wp2_with fail
   refine (short4_any _ A3 10 d3 b3 (k : Int) w3 (Row.of_own o3) (by decide)).mono ?_
   rintro e w4 ⟨⟨A4, d4, rfl, o4⟩, k4⟩
   have l4 : (b3 ++ beI 2 (k : Int)).length = 12 := by rw [List.length_append, l3, beI_length]
   rw [l4] at o4 ⊢
   generalize b3 ++ beI 2 (k : Int) = b4 at *
   clear l3 o3
   go_wp2_with fail
   refine (short4_any _ A4 12 d4 b4 (L : Int) w4 (Row.of_own o4) (by decide)).mono ?_
   rintro e w5 ⟨⟨A5, d5, rfl, o5⟩, k5⟩
   have l5 : (b4 ++ beI 2 (L : Int)).length = 14 := by rw [List.length_append, l4, beI_length]
   rw [l5] at o5 ⊢
   generalize b4 ++ beI 2 (L : Int) = b5 at *
   clear l4 o4
   have K5 : New wr w5 := ((k2.new k3).new k4).new k5
   have ob5 := own_base (base := wr.heap.size) o5 ((k2.new k3).new k4).size
   have hbp := HB.out.new (HK.out.new K5)
   have HKL := Lib.hid (Keep.of_new (D := fun b => b < wr.heap.size) K5)
   have hs5 : wr.heap.size ≤ w5.heap.size := K5.size
   clear o5 k2 k3 k4 k5 K5
   go_wp2_with (at_builtin; refine app_bytes _ rfl _ _ rfl wr.heap.size A5 14 d5 b5 rfl ob5 _ A 32 c pr rfl hbp (by decide) hs5 ?_; intro A6 d6 w6 o6 hg6 hbk6)
   have HK6 := Lib.hid (HKL.out.grown hg6 (fun j hj hd => absurd hd (by have := (own_lt ob5 j hj).1; show ¬ j < wr.heap.size; omega)))
   have hs6 : wr.heap.size ≤ w6.heap.size := HK6.out.size
   have hR6 := (HR.out.new HK.out).keep HK6.out (fun b _ hb => Nat.lt_of_lt_of_le hb hsz)
   clear ob5 hbp HKL hg6 hbk6
   refine (leaves17_any _ A2 k c2 rs w6 hR6 (by omega)).mono ?_
   rintro e w7 ⟨⟨A7, d7, rfl, o7⟩, k7⟩
   go_wp2_with fail
   refine (root6_any k _ A7 d7 (leavesOf rs) w7 o7.bss o7.cap (by have := HRO.out; omega) (by omega) o7.capMax).mono ?_
   rintro e w8 ⟨⟨A8, d8, rfl, o8⟩, k8⟩
   have ob8 := Own.keepNew (Own.keepNew o6 k7) k8
   have HK8 := Lib.hid ((HK6.out.new k7).new k8)
   have hs8 : wr.heap.size ≤ w8.heap.size := HK8.out.size
   have hb8 := Row.of_own o8
   clear hR6 o6 o7 k7 k8 o8 HK6
   generalize rootOf (leavesOf rs) = rt at *
   go_wp2_with (at_builtin; refine app_bytes _ rfl _ _ rfl wr.heap.size A6 (14 + 32) d6 _ rfl ob8 _ A8 32 d8 rt rfl hb8 (by decide) hs8 ?_; intro A9 d9 w9 o9 hg9 hbk9)
   have HK9 := Lib.hid (HK8.out.grown hg9 (fun j hj hd => absurd hd (by have := (own_lt ob8 j hj).1; show ¬ j < wr.heap.size; omega)))
   generalize b5 ++ pr ++ rt = b9 at *
   clear ob8 hb8 HK8 hg9 hbk9
   refine (sum3_any _ A9 (14 + 32 + 32) d9 b9 w9 (Row.of_own o9) (by decide)).mono ?_
   rintro e w' ⟨rfl, rfl⟩
   have l9 : b9.length = 78 := by simpa using o9.1
   generalize crcSum b9 = cs at *
   go_wp2_with fail
   refine (sum4_any _ A9 (14 + 32 + 32) d9 b9 cs w9 (Row.of_own o9) (by decide)).mono ?_
   rintro e w10 ⟨⟨A10, d10, rfl, o10⟩, k10⟩
   have l10 : (b9 ++ be4 cs).length = 82 := by rw [List.length_append, l9]; rfl
   rw [l10] at o10 ⊢
   generalize b9 ++ be4 cs = b10 at *
   have HK10 := Lib.hid (HK9.out.new k10)
   have hbody := (Row.of_own HO.out).imp (E := fun b => b < wr.heap.size) (fun b hb _ => hb)
   have hb10 := Row.keep hbody HK10.out (fun _ _ h => h)
   have ob10 := own_base (base := wr.heap.size) o10 HK9.out.size
   have hs10 : wr.heap.size ≤ w10.heap.size := HK10.out.size
   have hbd : 82 + L ≤ 140737488355328 := by omega
   clear o9 o10 k10 HK9 hbody
   have hx : Value.int .i64 (1024 - (82 + (L : Int))) = Value.int .i64 ((942 - L : Nat) : Int) := congrArg (Value.int .i64) (by omega)
   have hbz : 82 + L + (942 - L) ≤ 1099511627776 := by omega
   go_wp2_with (first
    | (at_builtin; refine app_bytes _ rfl _ _ rfl wr.heap.size A10 82 d10 _ rfl ob10 _ A' L c' bs rfl hb10 hbd hs10 ?_; intro A11 d11 w11 o11 hg11 hbk11; have hs11 : wr.heap.size ≤ w11.heap.size := Nat.le_trans hs10 hg11.size)
    | (at_builtin; refine app_zeros _ rfl _ _ rfl wr.heap.size A11 (82 + L) d11 (942 - L) _ rfl o11 hx hbz hs11 ?_; intro A12 d12 w12 o12 hg12 hbk12))
   have hfin := (HK10.out.grown hg11 (fun j hj hd => absurd hd (by have := (own_lt ob10 j hj).1; show ¬ j < wr.heap.size; omega))).grown hg12 (fun j hj hd => absurd hd (by have := (own_lt o11 j hj).1; show ¬ j < wr.heap.size; omega))
   have hK : New w w12 := (Keep.trans2 (D := fun b => b < w.heap.size) (Keep.of_new HK.out) hfin (fun i hi _ => Nat.lt_of_lt_of_le hi hsz)).toNew (fun i hi => hi)
   have hl : 82 + L + (942 - L) = S.length := by rw [HLEN.out]; omega
   have ho := own_base (base := w.heap.size) o12 hsz
   rw [← HSEG.out, hl] at ho
   refine bodyPost_ret (v := .tuple #[.slice A12 (82 + L + (942 - L)) d12, .int .i64 0]) (by simp [results, Tryz.results53, go_sem]) rfl ?_
   rw [hl]
   exact ⟨⟨A12, d12, rfl, ho⟩, hK⟩
theorem build17_any (D D2 : Nat → Prop) (index first : Int) (A A2 : Option Addr) (c m c2 : Nat) (pr : List UInt8) (rs : List RecP) (w : World) (hB : Bs w D A pr.length pr) (hnc : pr.length ≤ c) (hR : Recs w D2 A2 m rs) (hm : m ≤ 9223372036854775807) (hf0 : 0 ≤ first) :
  Calls Tryz.prog 53 #[.int .i64 index, .int .u64 first, .slice A pr.length c, .slice A2 m c2] w (BuildRet (buildOf index first pr rs) w) := by
 cases h : buildArgs index first pr.length rs
 ·refine (build17_arg D D2 index first A A2 pr.length c m c2 rs w hR hm h).mono ?_
  rintro e w' ⟨rfl, hK⟩
  unfold buildOf
  rw [if_pos h]
  exact ⟨⟨none, 0, rfl, Own.nil _ _ _ _⟩, hK⟩
 ·have hl := hR.len
  have h' := h
  unfold buildArgs at h'
  rw [decide_eq_true_eq] at h'
  obtain ⟨h1, h2, h3, h4, h5, h6⟩ := h'
  obtain ⟨g1, g2, g3⟩ := fits_all _ _ h6
  unfold buildOf
  rw [if_neg (by rw [h]; decide)]
  rw [h4] at hB hnc ⊢
  exact build17_go D D2 index first A A2 c m c2 pr rs w hB hnc hR hf0 (by omega) (by omega) (by omega) (by omega) (by omega) (by omega) g1 g2
end Go.Proofs.YtajnkbfcnmajoaaGreatDoor
/-
  PROVED HERE: slices of images, and slices of structs of one such slice, that came in: how they read; no condition.
-/
namespace Go.Proofs.YtajnkbfcnmajoaaGreatDoor
open Go.ChangeShapes Go.WideShapes Go.ChangeAt Go.RowKit Go.Joins Go.Deep
def ImgAt (w : World) (D : Nat → Prop) (vs : List Value) (k : Nat) (b : List UInt8) : Prop := ∃ A' c', vs[k]? = some (.slice A' b.length c') ∧ b.length ≤ c' ∧ c' ≤ 9223372036854775807 ∧ Bs w D A' b.length b
theorem ImgAt.keep {w w' : World} {D E : Nat → Prop} {vs : List Value} {k : Nat} {b : List UInt8} (h : ImgAt w D vs k b) (hk : Keep E w w') (hE : ∀ b, b < w.heap.size → D b → E b) : ImgAt w' D vs k b := by
 obtain ⟨A', c', e, hc, hc9, hb⟩ := h
 exact ⟨A', c', e, hc, hc9, hb.keep hk hE⟩
theorem ImgAt.imp {w : World} {D E : Nat → Prop} {vs : List Value} {k : Nat} {b : List UInt8} (h : ImgAt w D vs k b) (hE : ∀ b, b < w.heap.size → D b → E b) : ImgAt w E vs k b := by
 obtain ⟨A', c', e, hc, hc9, hb⟩ := h
 exact ⟨A', c', e, hc, hc9, hb.imp hE⟩
def Imgs (w : World) (D : Nat → Prop) (A : Option Addr) (n : Nat) (ls : List (List UInt8)) : Prop :=
 ∃ vs : List Value, Row w D A n 1 vs ∧ ls.length = n ∧ ∀ k (h : k < ls.length), ImgAt w D vs k ls[k]
theorem Imgs.len {w : World} {D : Nat → Prop} {A : Option Addr} {n : Nat} {ls : List (List UInt8)} (h : Imgs w D A n ls) : ls.length = n := by obtain ⟨_, _, h, _⟩ := h; exact h
theorem Imgs.keep {w w' : World} {D E : Nat → Prop} {A : Option Addr} {n : Nat} {ls : List (List UInt8)} (h : Imgs w D A n ls) (hk : Keep E w w') (hE : ∀ b, b < w.heap.size → D b → E b) : Imgs w' D A n ls := by
 obtain ⟨vs, h1, h2, h3⟩ := h
 refine ⟨vs, h1.keep hk hE, h2, fun k hk' => ?_⟩
 obtain ⟨A', c', e, hc, hc9, hb⟩ := h3 k hk'
 exact ⟨A', c', e, hc, hc9, hb.keep hk hE⟩
theorem Imgs.new {w w' : World} {D : Nat → Prop} {A : Option Addr} {n : Nat} {ls : List (List UInt8)} (h : Imgs w D A n ls) (hk : New w w') : Imgs w' D A n ls := h.keep hk fun _ _ _ => trivial
theorem Imgs.at_ {w : World} {D : Nat → Prop} {A : Option Addr} {n : Nat} {ls : List (List UInt8)} (h : Imgs w D A n ls) {k : Nat} (hk : k < ls.length) :
  ∃ b off A' c', A = some ⟨b, off, none⟩ ∧ D b ∧ w.cell? ⟨b, off + k, none⟩ = some (.slice A' ls[k].length c') ∧ ls[k].length ≤ c' ∧ c' ≤ 9223372036854775807 ∧ Bs w D A' ls[k].length ls[k] := by
 obtain ⟨vs, h1, h2, h3⟩ := h
 obtain ⟨A', c', e, hc, hc9, hb⟩ := h3 k hk
 obtain ⟨b, off, hA, hD, _, hcell⟩ := h1.2 (by omega)
 exact ⟨b, off, A', c', hA, hD, hcell _ _ e, hc, hc9, hb⟩
theorem Imgs.imp {w : World} {D E : Nat → Prop} {A : Option Addr} {n : Nat} {ls : List (List UInt8)} (h : Imgs w D A n ls) (hE : ∀ b, b < w.heap.size → D b → E b) : Imgs w E A n ls := by
 obtain ⟨vs, h1, h2, h3⟩ := h
 refine ⟨vs, h1.imp hE, h2, fun k hk' => ?_⟩
 obtain ⟨A', c', e, hc, hc9, hb⟩ := h3 k hk'
 exact ⟨A', c', e, hc, hc9, hb.imp hE⟩
def Raws8 (w : World) (D : Nat → Prop) (A : Option Addr) (n : Nat) (ls : List (List (List UInt8))) : Prop :=
 ∃ vs : List Value, Row w D A n 1 vs ∧ ls.length = n ∧ ∀ k (h : k < ls.length), ∃ A' c', vs[k]? = some (.slice A' ls[k].length c') ∧ ls[k].length ≤ c' ∧ c' ≤ 9223372036854775807 ∧ Imgs w D A' ls[k].length ls[k]
section
variable {w w' : World} {D E : Nat → Prop} {A : Option Addr} {n : Nat} {ls : List (List (List UInt8))}
theorem Raws8.len (h : Raws8 w D A n ls) : ls.length = n := by obtain ⟨_, _, h, _⟩ := h; exact h
theorem Raws8.keep (h : Raws8 w D A n ls) (hk : Keep E w w') (hE : ∀ b, b < w.heap.size → D b → E b) : Raws8 w' D A n ls := by
 obtain ⟨vs, h1, h2, h3⟩ := h
 refine ⟨vs, h1.keep hk hE, h2, fun k hk' => ?_⟩
 obtain ⟨A', c', e, hc, hc9, hb⟩ := h3 k hk'
 exact ⟨A', c', e, hc, hc9, hb.keep hk hE⟩
theorem Raws8.new (h : Raws8 w D A n ls) (hk : New w w') : Raws8 w' D A n ls := h.keep hk fun _ _ _ => trivial
theorem Raws8.imp (h : Raws8 w D A n ls) (hE : ∀ b, b < w.heap.size → D b → E b) : Raws8 w E A n ls := by
 obtain ⟨vs, h1, h2, h3⟩ := h
 refine ⟨vs, h1.imp hE, h2, fun k hk' => ?_⟩
 obtain ⟨A', c', e, hc, hc9, hb⟩ := h3 k hk'
 exact ⟨A', c', e, hc, hc9, hb.imp hE⟩
theorem Raws8.at_ (h : Raws8 w D A n ls) {k : Nat} (hk : k < ls.length) :
  ∃ b off A' c', A = some ⟨b, off, none⟩ ∧ w.cell? ⟨b, off + k, none⟩ = some (.slice A' ls[k].length c') ∧ ls[k].length ≤ c' ∧ c' ≤ 9223372036854775807 ∧ Imgs w D A' ls[k].length ls[k] := by
 obtain ⟨vs, h1, h2, h3⟩ := h
 obtain ⟨A', c', e, hc, hc9, hb⟩ := h3 k hk
 obtain ⟨b, off, hA, hD, _, hcell⟩ := h1.2 (by omega)
 exact ⟨b, off, A', c', hA, hcell _ _ e, hc, hc9, hb⟩
end
end Go.Proofs.YtajnkbfcnmajoaaGreatDoor
/-
  PROVED HERE: rows of images that a call makes, and the law of append at them; condition: fewer than 2^40 images.
-/
namespace Go.Proofs.YtajnkbfcnmajoaaGreatDoor
open Go.RowKit
def OwnImgs (w : World) (base : Nat) (D : Nat → Prop) (A : Option Addr) (n c : Nat) (ls : List (List UInt8)) : Prop :=
 ∃ vs : List Value, Own w base 25 1 A n c vs ∧ ls.length = n ∧ ∀ k (h : k < ls.length), ImgAt w (fun b => D b ∧ some b ≠ blk A) vs k ls[k]
section
variable {w w' : World} {base base' : Nat} {D E : Nat → Prop} {A : Option Addr} {n c : Nat} {ls : List (List UInt8)}
theorem OwnImgs.imgs (h : OwnImgs w base D A n c ls) : Imgs w (fun b => base ≤ b ∨ D b) A n ls := by
 obtain ⟨vs, h1, h2, h3⟩ := h
 exact ⟨vs, (Row.of_own h1).imp (fun _ _ h => .inl h), h2, fun k hk => (h3 k hk).imp fun _ _ h => .inr h.1⟩
theorem OwnImgs.nil (w : World) (base : Nat) (D : Nat → Prop) : OwnImgs w base D none 0 0 [] := ⟨[], Own.nil _ _ _ _, rfl, fun k hk => absurd hk (by simp)⟩
theorem OwnImgs.new (h : OwnImgs w base D A n c ls) (hk : New w w') : OwnImgs w' base D A n c ls := by
 obtain ⟨vs, h1, h2, h3⟩ := h
 exact ⟨vs, own_keep h1 hk (fun _ _ => trivial), h2, fun k hk' => (h3 k hk').keep hk fun _ _ _ => trivial⟩
theorem OwnImgs.rebase (h : OwnImgs w base' D A n c ls) (hb : base ≤ base') : OwnImgs w base D A n c ls := by
 obtain ⟨vs, h1, h2, h3⟩ := h
 exact ⟨vs, own_base h1 hb, h2, h3⟩
theorem OwnImgs.imp (h : OwnImgs w base D A n c ls) (hE : ∀ b, b < w.heap.size → D b → E b) : OwnImgs w base E A n c ls := by
 obtain ⟨vs, h1, h2, h3⟩ := h
 exact ⟨vs, h1, h2, fun k hk' => (h3 k hk').imp fun b hb hd => ⟨hE b hb hd.1, hd.2⟩⟩
theorem OwnImgs.keepE (h : OwnImgs w base D A n c ls) (hk : Keep E w w') (hb : ∀ k, blk A = some k → E k) (hD : ∀ b, D b → E b) : OwnImgs w' base D A n c ls := by
 obtain ⟨vs, h1, h2, h3⟩ := h
 exact ⟨vs, own_keep h1 hk hb, h2, fun k hk' => (h3 k hk').keep hk fun b _ hd => hD b hd.1⟩
theorem OwnImgs.len (h : OwnImgs w base D A n c ls) : ls.length = n := by obtain ⟨_, _, h, _⟩ := h; exact h
theorem OwnImgs.cap (h : OwnImgs w base D A n c ls) : n ≤ c := by obtain ⟨_, h, _⟩ := h; exact own_cap h
theorem OwnImgs.capMax (h : OwnImgs w base D A n c ls) : c ≤ 9223372036854775807 := by obtain ⟨_, h, _⟩ := h; exact own_capMax h
theorem OwnImgs.lt (h : OwnImgs w base D A n c ls) : ∀ k, blk A = some k → base ≤ k ∧ k < w.heap.size := by obtain ⟨_, h, _⟩ := h; exact own_lt h
end
end Go.Proofs.YtajnkbfcnmajoaaGreatDoor
