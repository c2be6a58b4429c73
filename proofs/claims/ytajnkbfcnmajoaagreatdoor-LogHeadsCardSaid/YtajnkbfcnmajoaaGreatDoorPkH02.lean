/-
  PROVED HERE: what law21.begin answers for a number of sectors that a disk may have: a world with nothing in it; condition: 64 to 4096 sectors.
-/
import Derived.Test.YtajnkbfcnmajoaaGreatDoorPkB00
import Derived.Test.YtajnkbfcnmajoaaGreatDoorPkB06
import Derived.Test.YtajnkbfcnmajoaaGreatDoorPkB36
import Derived.Test.YtajnkbfcnmajoaaGreatDoorPkH00
namespace Go.Proofs.YtajnkbfcnmajoaaGreatDoor
open Go.RowKit
theorem plan_nat {n : Nat} (h0 : 64 ≤ n) (h1 : n ≤ 4096) : planOf (n : Int) = ((n : Int), ((n / 4 : Nat) : Int), (((n - 1 - 2 * (n / 4)) / 8 : Nat) : Int), 0) := by
 rw [planOf_mid (by omega) (by omega)]
 have e1 : (n : Int) / 4 = ((n / 4 : Nat) : Int) := by omega
 have e2 : ((n : Int) - 1 - 2 * ((n : Int) / 4)) / 8 = (((n - 1 - 2 * (n / 4)) / 8 : Nat) : Int) := by omega
 rw [e2, e1]
theorem plan_right {n : Nat} (h0 : 64 ≤ n) (h1 : n ≤ 4096) : planRight (n : Int) ((n / 4 : Nat) : Int) (((n - 1 - 2 * (n / 4)) / 8 : Nat) : Int) = true := planRight_iff.2 (by omega)
theorem LogOn.rebase {w : World} {D : Nat → Prop} {base base' bl : Nat} {q : DiskB} {v : LogV} {A : Option Addr} {c : Nat} {S : List UInt8} (h : LogOn w D base' bl q v A c S) (hb : base ≤ base') : LogOn w D base bl q v A c S :=
 ⟨⟨h.log.cells, h.log.waits.rebase hb, h.log.next0, h.log.next1, h.log.few, h.log.out, h.log.apart⟩, h.disk, h.size, h.plan, h.apart, h.row, h.data⟩
theorem found_none {n p g : Nat} (hfit : ∀ i, i < g → placeAt p i + 1024 ≤ n * 128) : foundIn (List.replicate (n * 128) 0) p (g - 0) 0 (openNext 0 99) (openHead 0 id21 (List.replicate 32 0)) = [] := by
 have h := found_log (LogFine.nil id21) (S := List.replicate (n * 128) 0) (p := p) (g := g) (Nat.zero_le _) (fun i hi => absurd hi (Nat.not_lt_zero i)) (fun hg => .inl (no_nought _ (by
  have h1 := laid_new hfit 0 hg
  show (placeOf _ p 0).take 16 = _
  rw [h1]
  rfl))) 0 0 rfl
 exact h
theorem st_none {g : Nat} (hg : g ≤ 512) : LogSt id21 g ⟨[], []⟩ := ⟨LogFine.nil _, Nat.zero_le _, hg, by simp, fun k hk => absurd hk (Nat.not_lt_zero k), by simp [waitBytes, leavesOf], by simp, by show (1 : Int) + 0 ≤ _; omega⟩
set_option maxRecDepth 100000 in
set_option maxHeartbeats 1000000 in
theorem begin21_any (n : Nat) (h0 : 64 ≤ n) (h1 : n ≤ 4096) (w : World) :
  Calls Tryz.prog 9 #[.int .i64 n] w fun e w' => New w w' ∧ ∃ (bw : Nat) (q : DiskB) (v : W21V) (D DL : Nat → Prop) (S : List UInt8), e = .returned (.pointer (some ⟨bw, 0, none⟩)) ∧ WAt False w' D DL w.heap.size bw q v ⟨[], []⟩ none 0 S ∧ v.k = n := by
 have HOF := Lib.hid (of19_any (n : Int) (by omega) w)
 rw [plan_nat h0 h1] at HOF
 have hpr := plan_right h0 h1
 have hg5 : (n - 1 - 2 * (n / 4)) / 8 ≤ 512 := by omega
 generalize n / 4 = p at *
 generalize (n - 1 - 2 * p) / 8 = g at *
 have hfit : ∀ i, i < g → placeAt p i + 1024 ≤ n * 128 := fun i hi => by have := layPlan hpr hi; unfold placeAt; omega
 dsimp only at HOF
 have HDN := Lib.hid (fun W => dnew_any n h0 h1 W)
 have HFI := Lib.hid (And.intro hpr (And.intro hfit hg5))
 clear hpr hfit
 go_enter Tryz.func9, Tryz.ntmps9
 go_wp2_with fail
 refine HOF.out.mono ?_
 rintro e w1 ⟨rfl, k1⟩
 have kA := k1.alloc (.cells #[.int .i64 n, .int .i64 p, .int .i64 g] 32)
 have xA := heap_alloc_new w1 (.cells #[.int .i64 n, .int .i64 p, .int .i64 g] 32)
 obtain ⟨a0, a1, a2⟩ := cs3 xA
 go_upto_region 2 with fail
 generalize w1.alloc (.cells #[.int .i64 n, .int .i64 p, .int .i64 g] 32) = w2 at *
 have hgA := k1.size
 generalize w1.heap.size = gA at *
 have kB := (New.refl w2).alloc (.cells #[.int .i64 n, .int .i64 p, .int .i64 g] 31)
 have xB := heap_alloc_new w2 (.cells #[.int .i64 n, .int .i64 p, .int .i64 g] 31)
 have xA := kB.blockAt xA trivial
 have kB := kA.new kB
 go_upto_region 3 with fail
 generalize w2.alloc (.cells #[.int .i64 n, .int .i64 p, .int .i64 g] 31) = w3 at *
 have hgB := kA.size
 generalize w2.heap.size = gB at *
 clear a0 a1 a2 kA HOF k1
 go_wp2_with fail
 refine (HDN.out _).mono ?_
 rintro e w4 ⟨⟨q, rfl, hq, hd⟩, k4⟩
 have xA := k4.blockAt xA trivial
 have xB := k4.blockAt xB trivial
 have HK4 := Lib.hid (kB.new k4)
 have hz3 := kB.size
 have HCL := Lib.hid (Clean.of hd)
 have HQ := Lib.hid hq
 clear hd hq k4 kB HDN
 go_upto_region 6 with fail
 go_cut [8, 9, 10] (fun s8 s9 s10 wx => ∃ (bl : Nat) (Ao : Option Addr) (co : Nat), s8 = .pointer (some ⟨bl, 0, none⟩) ∧ s9 = .slice Ao 0 co ∧ s10 = .int .i64 0 ∧ w4.heap.size ≤ bl ∧ LogOn wx (fun b => w4.heap.size ≤ b ∧ b ≠ bl) w4.heap.size bl q ⟨n, p, g, 0, 1, genesisOf id21, []⟩ none 0 (List.replicate (n * 128) 0) ∧ New w4 wx)
 case first =>
  have n3 : New w4 w4.drew := (New.refl w4).drew
  refine hold_beginS (New w4.drew) (by kernel_rfl) ?_
  have r0 : ∀ W, New w4.drew W → W.cell? ⟨gB, 0, none⟩ = some (.int .i64 n) := fun W hW => cellOf (k := 0) ((n3.new hW).blockAt xB trivial) rfl
  have r1 : ∀ W, New w4.drew W → W.cell? ⟨gB, 1, none⟩ = some (.int .i64 p) := fun W hW => cellOf (k := 1) ((n3.new hW).blockAt xB trivial) rfl
  have r2 : ∀ W, New w4.drew W → W.cell? ⟨gB, 2, none⟩ = some (.int .i64 g) := fun W hW => cellOf (k := 2) ((n3.new hW).blockAt xB trivial) rfl
  have hz4 : w4.heap.size = w4.drew.heap.size := rfl
  generalize w4.drew = w5 at *
  have n0 : New w5 w5 := New.refl _
  refine take0 0 n0 ?_
  refine take0 1 n0 ?_
  clear r0 r1 r2
  obtain ⟨Zc, hZc⟩ : ∃ Zc : Array Value, Zc = ((List.replicate 32 (0 : UInt8)).map byteVal).toArray := ⟨_, rfl⟩
  have hmk : ∀ W, (Instr.makeSlice 25 (.int .i64 32) (.int .i64 32)).run Tryz.prog W = .ok (.slice (some ⟨W.heap.size, 0, none⟩) 32 32) (W.alloc (.cells Zc 5)) := fun W => by rw [hZc]; exact make_noughts 32 (by decide) W
  have HZC : Hid (Zc.toList = (List.replicate 32 (0 : UInt8)).map byteVal ∧ Zc.size = 32) := Lib.hid ⟨by rw [hZc], by rw [hZc]; rfl⟩
  clear hZc
  have HOP := Lib.hid (fun (W : World) (hW : New w5 W) (Z I1 : Option Addr) (c1 : Nat) (E E2 : Nat → Prop) (hZ : Bs W E Z 32 (List.replicate 32 0)) (hI : Bs W E2 I1 16 id21) (hc : 16 ≤ c1) => (show Calls Tryz.prog 13 #[.pointer (some ⟨q.bd, 0, none⟩), .agg #[.int .i64 n, .int .i64 p, .int .i64 g], .slice I1 16 c1, .int .i64 0, .slice Z 32 32, .int .u64 99] W (OpenRet W q (List.replicate (n * 128) 0) n p g 0 (openNext 0 99) (openHead 0 id21 (List.replicate 32 0))) from lopen_zero (s := n) (p := p) (g := g) (fr := 0) (HCL.out.new (n3.new hW)) (by simp) HFI.out.1 (Nat.zero_le _) rfl Z 32 (List.replicate 32 0) hZ 99 (by decide) (by decide) I1 16 c1 id21 hI hc (by decide)))
  have HMK := Lib.hid hmk
  clear hmk
  refine hold_fork0 (i := 2) (j := 3) (by kernel_rfl) rfl rfl rfl rfl (fun K hK => ?_) (fun K hK => ?_)
  ·skip
   go_simp
   refine (id21_any _).mono ?_
   rintro e w6 ⟨⟨A1, rfl, hb1⟩, k5⟩
   go_wp2_with fail
   have n1 := Keep.new n0 k5
   refine hK.out _ _ n1 ?_
   clear hK K
   try simp only [Act.put, ly1, ly2, ly3, ly4, ly5, ly6]
   refine hold_step0 (i := 3) (by kernel_rfl) rfl rfl (fun K hK => ?_)
   have hmk := HMK.out
   go_simp
   try go_wp2_with fail
   have n2 := n1.alloc (.cells Zc 5)
   have hbz := Row.made w6 5 Zc 32 1 (by rw [HZC.out.2])
   rw [HZC.out.1] at hbz
   have kz := (New.refl w6).alloc (.cells Zc 5)
   refine hK.out _ _ n2 ?_
   clear hK K hmk
   try simp only [Act.put, ly1, ly2, ly3, ly4, ly5, ly6]
   generalize w6.alloc (.cells Zc 5) = wz at *
   generalize w6.heap.size = gz at hbz ⊢
   have hb1 := hb1.new kz
   refine hold_step0 (i := 4) (by kernel_rfl) rfl rfl (fun K hK => ?_)
   go_simp
   have HO1 := Lib.hid (HOP.out wz n2 _ _ 16 _ _ hbz hb1 (Nat.le_refl _))
   refine HO1.out.mono ?_
   rintro e wo ⟨ko, bl, Ao, co, fd, hfd, rfl, hbl, hl, -⟩
   rw [found_none HFI.out.2.1] at hfd
   subst hfd
   go_wp2_with fail
   have n4 := Keep.new n2 ko
   refine hK.out _ _ n4 ?_
   clear hK K HO1
   try simp only [Act.put, ly1, ly2, ly3, ly4, ly5, ly6]
   refine take0 5 n4 ?_
   refine take0 6 n4 ?_
   refine take0 7 n4 ?_
   refine take0 8 n4 ?_
   refine take0 9 n4 ?_
   refine take0 10 n4 ?_
   refine take0 11 n4 ?_
   refine wpAnyH_done (by kernel_rfl) ?_ _
   go_wp2_with fail
   go_meet
   have hzz := Keep.size n2
   refine ⟨bl, Ao, co, rfl, rfl, rfl, by omega, ?_, n3.new n4⟩
   have hl2 := hl.rebase (base := w4.heap.size) (by omega)
   exact ⟨hl2.log.imp (fun b _ hb => ⟨by have := hb.1; omega, hb.2⟩) (fun hb => hb.2 rfl), hl2.disk, hl2.size, hl2.plan, hl2.apart, hl2.row, fun b hb => HCL.out.beyond b hb.1⟩
  ·skip
   have hmk := HMK.out
   go_simp
   try go_wp2_with fail
   have n1 := n0.alloc (.cells Zc 5)
   have hbz := Row.made w5 5 Zc 32 1 (by rw [HZC.out.2])
   rw [HZC.out.1] at hbz
   have kz := (New.refl w5).alloc (.cells Zc 5)
   refine hK.out _ _ n1 ?_
   clear hK K hmk
   try simp only [Act.put, ly1, ly2, ly3, ly4, ly5, ly6]
   generalize w5.alloc (.cells Zc 5) = wz at *
   generalize w5.heap.size = gz at hbz ⊢
   refine hold_step0 (i := 2) (by kernel_rfl) rfl rfl (fun K hK => ?_)
   go_simp
   refine (id21_any _).mono ?_
   rintro e w6 ⟨⟨A1, rfl, hb1⟩, k5⟩
   go_wp2_with fail
   have n2 := Keep.new n1 k5
   refine hK.out _ _ n2 ?_
   clear hK K
   try simp only [Act.put, ly1, ly2, ly3, ly4, ly5, ly6]
   have hbz := hbz.new k5
   refine hold_step0 (i := 4) (by kernel_rfl) rfl rfl (fun K hK => ?_)
   go_simp
   have HO1 := Lib.hid (HOP.out w6 n2 _ _ 16 _ _ hbz hb1 (Nat.le_refl _))
   refine HO1.out.mono ?_
   rintro e wo ⟨ko, bl, Ao, co, fd, hfd, rfl, hbl, hl, -⟩
   rw [found_none HFI.out.2.1] at hfd
   subst hfd
   go_wp2_with fail
   have n4 := Keep.new n2 ko
   refine hK.out _ _ n4 ?_
   clear hK K HO1
   try simp only [Act.put, ly1, ly2, ly3, ly4, ly5, ly6]
   refine take0 5 n4 ?_
   refine take0 6 n4 ?_
   refine take0 7 n4 ?_
   refine take0 8 n4 ?_
   refine take0 9 n4 ?_
   refine take0 10 n4 ?_
   refine take0 11 n4 ?_
   refine wpAnyH_done (by kernel_rfl) ?_ _
   go_wp2_with fail
   go_meet
   have hzz := Keep.size n2
   refine ⟨bl, Ao, co, rfl, rfl, rfl, by omega, ?_, n3.new n4⟩
   have hl2 := hl.rebase (base := w4.heap.size) (by omega)
   exact ⟨hl2.log.imp (fun b _ hb => ⟨by have := hb.1; omega, hb.2⟩) (fun hb => hb.2 rfl), hl2.disk, hl2.size, hl2.plan, hl2.apart, hl2.row, fun b hb => HCL.out.beyond b hb.1⟩
 case rest =>
  obtain ⟨bl, Ao, co, rfl, rfl, rfl, hbl, hl, k5⟩ := hcut
  have xA := k5.blockAt xA trivial
  have xB := k5.blockAt xB trivial
  obtain ⟨a0, a1, a2⟩ := cs3 xA
  obtain ⟨b0, b1, b2⟩ := cs3 xB
  have HL := Lib.hid hl
  have HK5 := Lib.hid (HK4.out.new k5)
  have hz4 := HK4.out.size
  have hz5 := k5.size
  clear hl k5
  go_wp2_with fail
  go_ret
  have hxw := heap_alloc_new wc (.cells #[.pointer (some ⟨q.bd, 0, none⟩), .int .i64 n, .int .i64 p, .int .i64 g, .int .i64 n, .int .i64 p, .int .i64 g, .pointer (some ⟨bl, 0, none⟩), .int .i64 g, .int .i64 0, .int .i64 0, .int .i64 0, .int .u64 1, .slice none 0 0, .slice none 0 0, .slice none 0 0, .slice none 0 0] 41)
  have kw := (New.refl wc).alloc (.cells #[.pointer (some ⟨q.bd, 0, none⟩), .int .i64 n, .int .i64 p, .int .i64 g, .int .i64 n, .int .i64 p, .int .i64 g, .pointer (some ⟨bl, 0, none⟩), .int .i64 g, .int .i64 0, .int .i64 0, .int .i64 0, .int .u64 1, .slice none 0 0, .slice none 0 0, .slice none 0 0, .slice none 0 0] 41)
  obtain ⟨v, hv⟩ : ∃ v : W21V, v = ⟨q.bd, bl, n, p, g, ⟨g, 0, 0, 0, 1⟩, none, 0, 0, none, 0, 0, none, 0, 0, none, 0, 0⟩ := ⟨_, rfl⟩
  refine ⟨HK5.out.new kw, wc.heap.size, q, v, fun _ => False, fun b => (w4.heap.size ≤ b ∧ b ≠ bl) ∧ b < wc.heap.size, List.replicate (n * 128) 0, rfl, ⟨⟨?_, ?_, ?_, ?_, ?_, ?_, ?_⟩, ?_, ?_, ?_⟩, ?_⟩
  all_goals try rw [hv]
  ·exact ⟨hxw, rfl, rfl, rfl, rfl, OwnSl.nil _ _ _ _ _, OwnSl.nil _ _ _ _ _, OwnSl.nil _ _ _ _ _, OwnSl.nil _ _ _ _ _, fun b hb => hb.elim, fun k hk => (by cases hk)⟩
  ·have h2 := HL.out.rebase (base := w.heap.size) hz4
   have h3 : LogOn wc (fun b => (w4.heap.size ≤ b ∧ b ≠ bl) ∧ b < wc.heap.size) w.heap.size bl q ⟨n, p, g, 0, 1, genesisOf id21, []⟩ none 0 (List.replicate (n * 128) 0) := ⟨h2.log.imp (fun b hb hd => ⟨hd, hb⟩) (fun hb => hb.1.2 rfl), h2.disk, h2.size, h2.plan, h2.apart, h2.row, fun b hb => h2.data b hb.1⟩
   exact h3.new kw
  ·exact fun b hb => ⟨by have := hb.2; omega, by simp [blk], by simp [blk], by simp [blk], by simp [blk]⟩
  ·exact fun b hb => hb.elim
  ·have q1 := HQ.out q.bd (.inl rfl); have q2 := HQ.out q.bs (.inr (.inl rfl)); have q3 := HQ.out q.bm (.inr (.inr rfl)); exact ⟨by omega, by show w.heap.size ≤ bl; omega, by omega, by omega, by omega⟩
  ·exact Nat.le_trans (HK5.out.size) kw.size
  ·exact st_none HFI.out.2.2
  ·rfl
  ·exact .inr (laid_new HFI.out.2.1)
end Go.Proofs.YtajnkbfcnmajoaaGreatDoor
